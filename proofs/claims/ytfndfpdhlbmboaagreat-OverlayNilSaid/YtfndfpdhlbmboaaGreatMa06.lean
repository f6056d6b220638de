/-
  The walk of entry.Decode (layer 11). Conditions: none.
-/
import Derived.Test.YtfndfpdhlbmboaaGreatMa05
import Derived.Deep.CutBlock
import Derived.Test.YtfndfpdhlbmboaaGreatMz
set_option maxRecDepth 100000
set_option maxHeartbeats 16000000
set_option linter.unusedVariables false
set_option linter.unusedSimpArgs false
namespace Go.Proofs.YtfndfpdhlbmboaaGreat
open Go Go.RowKit _root_.Go.Proofs.Tryz
structure DS(w0:World)(t:TypeId)(z:Array Value)(r g h:Nat)(l:List UInt8)(wr:Bool)(cs:Array Value)(W:World):Prop where
 rd:Rd W g l wr
 x:ah W h t cs
 rv:ah W r t z
 k:K w0 W
 o:w0.heap.size<=r/\r<g/\g<h
section
variable {w0 W W':World} {t:TypeId} {z cs:Array Value} {r g h:Nat} {l l':List UInt8} {wr wr':Bool} {row:Option Nat}
theorem DS.went(D:DS w0 t z r g h l wr cs W)(H:nD g l' wr' W W'):DS w0 t z r g h l' wr' cs W':=by have o:=D.o;exact⟨H.1,D.x.went H af,D.rv.went H af,D.k.trans (ky H.2 af D.k.size),o⟩
theorem DS.set(D:DS w0 t z r g h l wr cs W) i u:DS w0 t z r g h l wr (cs.setIfInBounds i u) (W.setCell ⟨h,i,none⟩ u):=by have o:=D.o;exact⟨D.rd.set af i u,D.x.aM i u,D.rv.far aG u,D.k.setCell aG u,o⟩
theorem DS.gr(D:DS w0 t z r g h l wr cs W)(k:K W W'):DS w0 t z r g h l wr cs W' :=
 ⟨D.rd.av k,D.x.av k,D.rv.av k,D.k.tr k,D.o⟩
theorem DS.mut(D:DS w0 t z r g h l wr cs W)(m:W.grownBy W' row)(u:∀b,row=some b->h<b):DS w0 t z r g h l wr cs W':=by have o:=D.o;have hb:Below (h+1) W W':=⟨m.os,m.tape,m.output,m.size,λi j=>m.block i (bz j D.x.lt) aG⟩;exact⟨D.rd.below hb af,D.x.below hb af,D.rv.below hb af,D.k.trans (hb.mono af),o⟩
theorem aI.went{lo}(H:nD g l' wr' W W')(hg:g<lo):aI lo none W W':=(aI.eM H.2 lo).more (aC _) (λk hk _=>aY)
theorem aI.set{lo b}(hb:b<lo) i u:aI lo none W (W.setCell ⟨b,i,none⟩ u) :=
 ⟨rfl,rfl,rfl,Px,λk hk _ _=>Below.heap_setCell W ⟨b,i,none⟩ u k aY⟩
end
theorem K.set{w0 W r}(h:K w0 W)(j:w0.heap.size<=r) i u:K w0 (W.setCell ⟨r,i,none⟩ u):=h.setCell j u
theorem K.sets{w0:World}{r:Nat}(j:w0.heap.size<=r):∀(us:List Value) (q:Nat) (W:World),K w0 W->K w0 (dV W r q us)
 | [],_,_,h=>h
 | u :: us,q,W,h=>K.sets j us _ _ (h.set j q u)
theorem aI.sets{lo b:Nat}(hb:b<lo):∀(us:List Value) (q:Nat) (W:World),aI lo none W (dV W b q us)
 | [],_,_=>aI.rf _ _ _
 | u :: us,q,W=>(aI.set hb q u).tr (aI.sets hb us _ _)
section
variable {w0 W:World} {t:TypeId} {z:Array Value} {r g h:Nat} {l:List UInt8} {wr:Bool}
theorem DS.sets:∀(q:Nat) (us:List Value) {W:World} {cs:Array Value},DS w0 t z r g h l wr cs W->DS w0 t z r g h l wr (nW cs.toList q us).toArray (dV W h q us)
 | q,[],W,cs,D=>by simpa [nW,dV]using D
 | q,u :: us,W,cs,D=>by have:=(D.set q u).sets (q+1) us;simpa [nW,dV,Array.toList_setIfInBounds]using this
theorem DS.put{cs}(D:DS w0 t z w0.heap.size g h l wr cs W) us(j:us.length=z.size):ah (dV W w0.heap.size 0 us) w0.heap.size t us.toArray/\K w0 (dV W w0.heap.size 0 us)/\aI (h+1) none W (dV W w0.heap.size 0 us) :=
 ⟨Fq D.rv j,K.sets (aC _) _ _ _ D.k,aI.sets Vr _ _ _⟩
end
theorem pP.rel{w B v l}(h:pP w B v l):∀w',aI B none w w'->cG.rel l [v] w':=by intro w' u;refine⟨v,rfl,aeO (base:=B) ⟨h.1,h.2.imp id ?_⟩⟩;exact Vj
theorem fH.rel{w B v l}(h:fH w B v l):∀w',aI B none w w'->fu l v w':=by intro w' u;refine wP (base:=B) ⟨h.1,h.2.imp id ?_⟩;exact Vj
abbrev zEL:List Value:=[.int .i64 0,.int .i64 0,.int .u64 0,.int .u64 0,.int .i64 0,.int .u64 0,.slice none 0 0,.slice none 0 0]
abbrev eI:Array Value:=#[.int .i64 0,.int .i64 0,.int .u64 0,.int .u64 0,.int .i64 0,.int .u64 0,.slice none 0 0,.slice none 0 0]
theorem axR:(prog.info? 51).map (λi=>(i.zero,i.size,i.bytes))=some (some (.slice none 0 0),1,24):=by rfl
theorem Jb:fK prog 37 51 (.slice none 0 0) 1 24:=⟨underlying37,axR,rfl,ay⟩
theorem Ku g l wr j w(h:Rd w g l wr)(A:l.length<=1000000000)(y:-9223372036854775808<=j)(u:j<=9223372036854775807) :
 Calls prog 210 #[.pointer (some ⟨g,0,none⟩),.int .i64 j] w λe w'=>∃v,e=.returned v/\sl (aL j l wr).1 v w'/\nD g (aL j l wr).2.1 (aL j l wr).2.2 w w' :=
 (Oq g l wr j w h A y u).mono λ_ _ ⟨v,e,B,t⟩=>⟨v,e,eK B,t⟩
theorem asW{n l wr}(h:sJ (aL n l wr).1=none):(lR n l wr).2.2=true:=by
 grind [lR]
theorem asX{n l wr e}(h:sJ (aL n l wr).1=some e):lR n l wr=(e,(aL n l wr).2):=by
 grind [lR]
theorem asY{n l wr}(h:qI (aL n l wr).1=none):(pQ n l wr).2.2=true:=by
 grind [pQ]
theorem asZ{n l wr e}(h:qI (aL n l wr).1=some e):pQ n l wr=(e,(aL n l wr).2):=by
 grind [pQ]
theorem as0{b}(h:sJ b=none):yp b=40/\yo b=[]:=by simp[yp,yo,h]
theorem as1{b l}(h:sJ b=some l):yp b=0/\yo b=l:=by simp[yp,yo,h]
theorem arl{b}(h:qI b=none):uL b=50/\uK b=[]:=by simp[uL,uK,h]
theorem arn{b l}(h:qI b=some l):uL b=0/\uK b=l:=by simp[uL,uK,h]
theorem ap1 b k br u j cl t l wr(h:gD b false=((k,br,u,j,cl,t),l,wr)) :
 (min k 4=1->∀m y A,ax l wr=(m,y,A)->iC b=if !(cU (lR b.length) (min m 9) y A).2.2&&(cU (lR b.length) (min m 9) y A).2.1.isEmpty&&bK { nZ (k,br,u,j,cl,t)with es:=(cU (lR b.length) (min m 9) y A).1 }then some { nZ (k,br,u,j,cl,t)with es:=(cU (lR b.length) (min m 9) y A).1 }else none) /\
 (min k 4=2->iC b=if !(pQ b.length l wr).2.2&&(pQ b.length l wr).2.1.isEmpty&&bK { nZ (k,br,u,j,cl,t)with f:=(pQ b.length l wr).1 }then some { nZ (k,br,u,j,cl,t)with f:=(pQ b.length l wr).1 }else none) /\
 (min k 4≠1->min k 4≠2->iC b=if !wr&&l.isEmpty&&bK (nZ (k,br,u,j,cl,t))then some (nZ (k,br,u,j,cl,t))else none):=by
 refine⟨λB m y A hn=>?_,λC=>?_,λB C=>?_⟩
 ·unfold iC pR;rw[h];simp only[B,hn,if_true]
 ·unfold iC pR;rw[h];simp only[C,if_true,show ¬((2:Nat)=1) by decide,if_false]
 ·unfold iC pR;rw[h];simp only[B,C,if_false]
theorem OJ{b}(h:iC b=none):xY b=110/\lJ b=dz:=by simp[xY,lJ,h]
theorem T3{b x}(h:iC b=some x):xY b=0/\lJ b=x:=by simp[xY,lJ,h]
theorem TC b v w(h:sl b v w)(hn:b.length<=1000000000) :
 Calls prog 209 #[v] w λe w' =>
  ∃v',e=.returned (.tuple #[v',.int .i64 (xY b)])/\(∀W,aI w.heap.size none w' W->cV (lJ b) v' W)/\K w w':=by
 obtain⟨A,c,rfl,hR⟩:=h
 have cS:=ah.new w 126 eI
 have k0:=cS.aS
 have AE:=(hR.below k0 (aC _)).more k0.size
 obtain⟨k,l1,e1,oG⟩:∃k l1 e1,ax b false=(k,l1,e1):=⟨_,_,_,rfl⟩
 obtain⟨br,l2,e2,rm⟩:∃k l2 e2,ax l1 e1=(k,l2,e2):=⟨_,_,_,rfl⟩
 obtain⟨y,l3,e3,RC⟩:∃k l3 e3,ax l2 e2=(k,l3,e3):=⟨_,_,_,rfl⟩
 obtain⟨t,l4,e4,RD⟩:∃k l4 e4,ax l3 e3=(k,l4,e4):=⟨_,_,_,rfl⟩
 obtain⟨cl,l5,e5,RE⟩:∃k l5 e5,ax l4 e4=(k,l5,e5):=⟨_,_,_,rfl⟩
 obtain⟨E,C,F,Mv⟩:∃k C F,ax l5 e5=(k,C,F):=⟨_,_,_,rfl⟩
 have HP:=ap1 b k br y t cl E C F (by simp only[gD,oG,rm,RC,RD,RE,Mv])
 have hl6:C.length<=b.length:=by have g1:=nv b false;have g2:=nv l1 e1;have g3:=nv l2 e2;have g4:=nv l3 e3;have g5:=nv l4 e4;have g6:=nv l5 e5;rw[oG]at g1;rw[rm]at g2;rw[RC]at g3;rw[RD]at g4;rw[RE]at g5;rw[Mv]at g6;simp only at g1 g2 g3 g4 g5 g6;omega
 have C1:=λg W h=>Kb g b false 4 W h af
 have C2:=λg W h=>abB g l1 e1 W h
 have C3:=λg W h=>Kb g l4 e4 32 W h af
 have C4:=λg W h=>sA g l5 e5 W h
 simp only[DZ,oG,rm,RC,RD,RE,Mv]at C1 C2 C3 C4
 clear oG rm RC RD RE Mv
 replace HP:=ae HP
 replace C1:=ae C1
 replace C2:=ae C2
 replace C3:=ae C3
 replace C4:=ae C4
 have YX:min k 4<=4:=af
 generalize hkk:min k 4=Q at *
 generalize ox:min br 16=G at *
 generalize AF:min cl 32=cc at *
 have HX:Hid (nZ (k,br,y,t,cl,E)=⟨Q,G,y,t,cc,E,[],[]⟩):=ae (by simp only[nZ,hkk,ox,AF])
 clear hkk ox AF
 generalize nZ (k,br,y,t,cl,E)=X0 at *
 go_enter func209,ntmps209
 go_wp2_with fail
 generalize w.alloc _=w1 at *
 refine (Kr A _ c b w1 _ AE (aC _) hn).mono ?_
 rintro e w2⟨g,rfl,hg,lD,k2⟩
 have aW:=cS.av k2
 have hrg:=bz cS.lt hg
 replace k0:=k0.tr k2
 clear hR AE hg k2 cS
 go_wp2_with fail
 refine (C1.aa g w2 lD).mono ?_
 rintro e w3⟨rfl,hw3⟩
 have dI:=aW.went hw3 af
 have k3:K w w3:=k0.trans (ky hw3.2 af k0.size)
 have vQ:=hw3.1
 have LI:=vQ.lt
 clear lD aW hw3 k0
 go_wp2_with fail
 have D:DS w 126 eI w.heap.size g w3.heap.size l1 e1 #[.int .i64 Q,.int .i64 0,.int .u64 0,.int .u64 0,.int .i64 0,.int .u64 0,.slice none 0 0,.slice none 0 0]
  (w3.alloc (.cells #[.int .i64 Q,.int .i64 0,.int .u64 0,.int .u64 0,.int .i64 0,.int .u64 0,.slice none 0 0,.slice none 0 0] 126)) :=
  ⟨vQ.al _,ah.new _ _ _,dI.alloc _,k3.al _,aC _,hrg,LI⟩
 clear vQ dI k3 LI hrg
 generalize w3.alloc _=w4 at *
 generalize w3.heap.size=h at *
 refine (C2.aa g w4 D.rd).mono ?_
 rintro e w5⟨rfl,Mw⟩
 replace D:=D.went Mw
 clear Mw
 have q:=D.x.cell
 have z:=D.x.frozen
 go_upto_region 4 with (fail)
 replace D:DS w 126 eI w.heap.size g h l4 e4 #[.int .i64 Q,.int .i64 G,.int .u64 y,.int .u64 t,.int .i64 0,.int .u64 0,.slice none 0 0,.slice none 0 0] (((w5.setCell ⟨h,1,none⟩ (.int .i64 G)).setCell ⟨h,2,none⟩ (.int .u64 y)).setCell ⟨h,3,none⟩ (.int .u64 t)):=((((((D).set 1 (.int .i64 G))).set 2 (.int .u64 y))).set 3 (.int .u64 t))
 clear q z
 generalize (((w5.setCell _ _).setCell _ _).setCell _ _)=w6 at *
 go_wp2_with fail
 refine (C3.aa g w6 D.rd).mono ?_
 rintro e w7⟨rfl,hw7⟩
 replace D:=D.went hw7
 clear hw7
 have q:=D.x.cell
 have z:=D.x.frozen
 go_upto_region 5 with (fail)
 replace D:DS w 126 eI w.heap.size g h l5 e5 #[.int .i64 Q,.int .i64 G,.int .u64 y,.int .u64 t,.int .i64 cc,.int .u64 0,.slice none 0 0,.slice none 0 0] (w7.setCell ⟨h,4,none⟩ (.int .i64 cc)):=((D).set 4 (.int .i64 cc))
 clear q z
 generalize w7.setCell _ _=w8 at *
 go_wp2_with fail
 refine (C4.aa g w8 D.rd).mono ?_
 rintro e w9⟨rfl,hw9⟩
 replace D:=D.went hw9
 clear hw9
 have q:=D.x.cell
 have z:=D.x.frozen
 go_upto_region 6 with (fail)
 replace D:DS w 126 eI w.heap.size g h C F #[.int .i64 Q,.int .i64 G,.int .u64 y,.int .u64 t,.int .i64 cc,.int .u64 E,.slice none 0 0,.slice none 0 0] (w9.setCell ⟨h,5,none⟩ (.int .u64 E)):=((D).set 5 (.int .u64 E))
 clear q z C1 C2 C3 C4
 generalize w9.setCell _ _=wa at *
 have Rt:=D.o
 have HM:=ae (λ(l:List UInt8) wr=>Hy (b.length:Int) l wr)
 have LJ:((b.length:Nat):Int)<=9223372036854775807:=af
 have q:=D.x.cell
 go_upto_block 0 with (fail)
 go_cut [6,7,8,9]from 26 to 64 (fun _ _ _ _ W=>∃(X:aK) (l:List UInt8) (e:Bool) (vf ve:Value),DS w 126 eI w.heap.size g h l e (aD X vf ve) W /\
  (∀W',aI (h+1) none W W'->fu X.f vf W')/\(∀W',aI (h+1) none W W'->aq cG X.es ve W')/\Hid (iC b=if !e&&l.isEmpty&&bK X then some X else none))
 case first =>
  by_cases fZ:Q=1
  ·subst fZ;replace D:DS w 126 eI w.heap.size g h C F #[.int .i64 (1:Int),.int .i64 G,.int .u64 y,.int .u64 t,.int .i64 cc,.int .u64 E,.slice none 0 0,.slice none 0 0] wa:=D;obtain⟨m,l7,e7,RG⟩:∃k la ea,ax C F=(k,la,ea):=⟨_,_,_,rfl⟩;rw[show ((1:Nat):Int)=1 from rfl]at HX;have Y:=ae (HP.aa.1 rfl m l7 e7 RG);rw[HX.aa]at Y;have Mx:l7.length<=b.length:=by have:=nv C F;rw[RG]at this;simp only at this;omega
   have C7:=λg W h=>Kb g C F 9 W h af
   simp only[RG]at C7;clear RG HP HX;have hm9:min m 9<=9:=af;generalize min m 9=M at *;go_wp2_with fail
   clear q;refine (C7 g wa D.rd).mono ?_;rintro e wb⟨rfl,My⟩;replace D:=D.went My;clear My C7;have HQ:=ae (λk l wr=>KR (Ki (b.length:Int)) k l wr);have ajS:=ae (λk (hk:k<=M) (hb:(cU (lR (b.length:Int)) k l7 e7).2.2=true)=>show xY b=110/\lJ b=dz from OJ (by
    have:=Vc (Ki (b.length:Int)) hb (M-k);rw[show k+(M-k)=M by omega]at this;rw[Y.aa,this];rfl))
   go_wp2_with fail
   go_loopw [6,7,30] (fun _ _ i W=>∃j:Nat,j<=M/\i=.int .i64 j/\∃es ve J I,Hid (cU (lR (b.length:Int)) j l7 e7=(es,J,I)) /\
    DS w 126 eI w.heap.size g h J I #[.int .i64 (1:Int),.int .i64 G,.int .u64 y,.int .u64 t,.int .i64 cc,.int .u64 E,.slice none 0 0,ve] W /\
    aV (h+1) (h+1) 51 cG es ve W) (λ_ _ i _=>M-(intOf i).toNat)
   case atStart=>exact⟨0,af,rfl,[],_,l7,e7,ae rfl,D,aV.nil _ _ _ _ _⟩
   case round =>
    clear D;obtain⟨j,hj,rfl,es,ve,J,I,HJ,D,R⟩:=hrel;have YY:=HQ.aa j l7 e7;rw[HJ.aa]at YY;simp only at YY;obtain⟨aD3,azv⟩:=YY;have aD4:es.length<=9:=af;clear azv;by_cases hlt:j<M
    ·have aP:(j:Int)<M:=af;go_wp2_with fail
     refine (Ku g J I (b.length:Int) wr D.rd af af LJ).mono ?_;rintro e wc⟨vb,rfl,nH,hwc⟩;replace D:=D.went hwc;replace R:=R.up (aC _) (aI.went hwc Vr);have hlb:=HM.aa J I;have azw:=Dl (b.length:Int) J I;have vU:=ae (@asW (b.length:Int) J I);have vV:=ae (λe h=>@asX (b.length:Int) J I e h);have AG:Hid (cU (lR (b.length:Int)) (j+1) l7 e7=(es++[(lR (b.length:Int) J I).1],(lR (b.length:Int) J I).2)):=ae (by
      have:=HJ.aa;rw[cU,this])
     clear hwc;generalize aL (b.length:Int) J I=B at *;obtain⟨bs,lk,ek⟩:=B;simp only at nH D R hlb azw vU vV;go_wp2_with fail
     refine (asV nH af).mono ?_;rintro e T⟨v9,rfl,N,k9⟩;have rW:=D.x.lt;have kQ:=R.blk;replace D:=D.gr k9;replace R:=R.st k9;clear nH;cases ke:sJ bs with
     | none => have H:=as0 ke;have HN:=ae (ajS.aa (j+1) af (by rw[AG.aa];exact vU.aa ke));rw[H.1];clear ke H N;exact PD
     | some ev =>
      have H:=as1 ke;rw[H.1];rw[H.2]at N;have Cj:Hid (cU (lR (b.length:Int)) (j+1) l7 e7=(es++[ev],lk,ek)):=ae (by rw[AG.aa,vV.aa _ ke]);clear ke H AG vU vV HJ;have Mz:=ae N.rel;obtain⟨O,L,rfl⟩:=xR (aeO N);clear N;obtain⟨css,hown,hcl,ki⟩:=R;have q:=D.x.cell;have kA:=K.new T (.cells #[.slice O ev.length L] 51);have hbase:h+1<=(T.alloc (.cells #[.slice O ev.length L] 51)).heap.size:=by have:=kA.size;have:=D.x.lt;omega
      go_wp2_with (at_builtin;refine iF rfl _ _ 37 rfl (h+1) 51 _ 1 24 Jb _ _ _ rfl (pH hown _) (T.heap.size+1) _ 1 1 [.slice O ev.length L] rfl ?c1 ?c2 ?c3 hbase ?_)
      case c1=>exact Reads.new T [.slice O ev.length L] 51 1 1 rfl
      case c2=>intro u hu;simp at hu;subst hu;rfl
      case c3=>omega
      intro v9 w9 fN bB cQ _;have DA:=D.gr kA;replace DA:=DA.mut bB (λb0 hb0=>(kQ b0 hb0).1);have bq:=aV.snoc hcl (λw' u=>ki w' (aI.tr (aI.aT kA _ _) u)) fN bB pC
       (λw' u=>Mz.aa w' ((aI.tr (aI.aT kA _ _) u).more af (λk hk _ e=>Vs)))
      clear fN bB cQ hown ki D q;obtain⟨Jc,Jd,rfl,-⟩:=bq.slice;have q:=DA.x.cell;have z:=DA.x.frozen;go_upto_region 14 with (fail);have hsz:(es++[ev]).length=es.length+1:=aj;rw[hsz]at bq;clear hsz q z;replace DA:DS w 126 eI w.heap.size g h lk ek #[.int .i64 (1:Int),.int .i64 G,.int .u64 y,.int .u64 t,.int .i64 cc,.int .u64 E,.slice none 0 0,.slice Jc (es.length+1) Jd] (w9.setCell ⟨h,7,none⟩ (.slice Jc (es.length+1) Jd)):=DA.set 7 (.slice Jc (es.length+1) Jd);replace bq:=bq.up (w':=w9.setCell ⟨h,7,none⟩ (.slice Jc (es.length+1) Jd)) (aC _) (aI.set af 7 _);generalize w9.setCell _ _=wt at *;go_wp2;go_roundw
      case rel=>exact⟨j+1,af,bJ,es++[ev],_,lk,ek,Cj,DA,bq⟩
      case measure=>simp[intOf];omega
    ·have aP:¬(j:Int)<M:=af;obtain rfl:j=M:=af;have HD:=Y.aa;rw[HJ.aa]at HD;simp only at HD;replace HD:=ae HD;obtain⟨Jc,Jd,rfl,-⟩:=R.slice;have S:∀W',aI (h+1) none wr W'->fu [] (.slice none 0 0) W':=λ_ _=>⟨none,0,rfl,Reads.nil _ _ _ _⟩
     have V:∀W',aI (h+1) none wr W'->aq cG es (.slice Jc es.length Jd) W':=λW' u=>(R.up (aC _) u).aq
     clear ajS Y HJ HQ R;go_wp2;go_meet
     case rel=>exact⟨⟨1,G,y,t,cc,E,[],es⟩,J,I,_,_,D,S,V,HD⟩
  by_cases hk2:Q=2
  ·subst hk2;replace D:DS w 126 eI w.heap.size g h C F #[.int .i64 (2:Int),.int .i64 G,.int .u64 y,.int .u64 t,.int .i64 cc,.int .u64 E,.slice none 0 0,.slice none 0 0] wa:=D;rw[show ((2:Nat):Int)=2 from rfl]at HX;have Y:=ae (HP.aa.2.1 rfl);rw[HX.aa]at Y;clear HP HX;go_wp2_with fail
   clear q;refine (Ku g C F (b.length:Int) wa D.rd af af LJ).mono ?_;rintro e wc⟨vb,rfl,nH,hwc⟩;replace D:=D.went hwc;have hlb:=HM.aa C F;have vU:=ae (@asY (b.length:Int) C F);have vV:=ae (λe h=>@asZ (b.length:Int) C F e h);clear hwc;generalize aL (b.length:Int) C F=B at *;obtain⟨bs,lk,ek⟩:=B;simp only at nH D hlb vU vV;have rW:=D.x.lt;go_wp2_with fail
   refine (aq9 nH af).mono ?_;rintro e T⟨v9,rfl,N,k9⟩;replace D:=D.gr k9;clear nH;cases ke:qI bs with
   | none => have H:=arl ke;have HN:=ae (show xY b=110/\lJ b=dz from OJ (by rw[Y.aa,vU.aa ke];rfl));rw[H.1];clear ke H N;exact PD
   | some Z =>
    have H:=arn ke;rw[H.1];rw[H.2]at N;have HD:=Y.aa;rw[vV.aa _ ke]at HD;simp only at HD;replace HD:=ae HD;clear ke H vU vV Y;have HFl:=ae N.rel;obtain⟨O,L,rfl⟩:=b6 (wP N);clear N;have q:=D.x.cell;have z:=D.x.frozen;go_upto_region 20 with (fail);replace D:DS w 126 eI w.heap.size g h lk ek #[.int .i64 (2:Int),.int .i64 G,.int .u64 y,.int .u64 t,.int .i64 cc,.int .u64 E,.slice O Z.length L,.slice none 0 0] (T.setCell ⟨h,6,none⟩ (.slice O Z.length L)):=((D).set 6 (.slice O Z.length L));have S:∀W',aI (h+1) none (T.setCell ⟨h,6,none⟩ (.slice O Z.length L)) W'->fu Z (.slice O Z.length L) W':=λW' u =>
     HFl.aa W' ((aI.tr (aI.set af 6 _) u).more af (λ_ _ _=>aj))
    have V:∀W',aI (h+1) none (T.setCell ⟨h,6,none⟩ (.slice O Z.length L)) W'->aq cG [] (.slice none 0 0) W':=λ_ _=>gh cG _
    clear HFl q z;generalize T.setCell _ _=wt at *;go_wp2;go_meet
    case rel=>exact⟨⟨2,G,y,t,cc,E,Z,[]⟩,lk,ek,_,_,D,S,V,HD⟩
  have HD:=ae (HP.aa.2.2 fZ hk2);rw[HX.aa]at HD;clear HP;have S:∀W',aI (h+1) none wa W'->fu [] (.slice none 0 0) W':=λ_ _=>⟨none,0,rfl,Reads.nil _ _ _ _⟩
  have V:∀W',aI (h+1) none wa W'->aq cG [] (.slice none 0 0) W':=λ_ _=>gh cG _
  have g1:((Q:Int)==1)=false:=aY;have g2:((Q:Int)==2)=false:=aY;go_wp2;go_meet
  case rel=>exact⟨⟨Q,G,y,t,cc,E,[],[]⟩,C,F,_,_,D,S,V,HD⟩
 case rest =>
 clear D q
 obtain⟨X,l,e,vf,ve,D,S,V,HD⟩:=hcut
 obtain⟨A6,c6,rfl⟩:=b6 (S _ (aI.rf _ _ _))
 obtain⟨A7,c7,rfl⟩:=aw (V _ (aI.rf _ _ _))
 have U:=aI.rf (h+1) none wc
 have AH:Hid ((∀W',aI (h+1) none wc W'->fu X.f (.slice A6 X.f.length c6) W')/\∀W',aI (h+1) none wc W'->aq cG X.es (.slice A7 X.es.length c7) W'):=ae ⟨S,V⟩
 clear S V
 go_wp2_with fail
 refine (Kg g _ _ _ D.rd).mono ?_
 rintro e w'⟨rfl,rfl⟩
 have HB:Hid ((!e&&l.isEmpty&&bK X)=false->xY b=110/\lJ b=dz):=ae λh=>OJ PE
 have HG:Hid ((!e&&l.isEmpty&&bK X)=true->xY b=0/\lJ b=X):=ae λh=>T3 PE
 clear HD
 cases hd:(!e&&l.isEmpty)
 ·have HN:=ae (HB.aa Vt);exact PD
 have q:=D.x.cell
 go_wp2_with fail
 refine (J7 X _ _ ⟨_,_,rfl,AH.aa.1 _ U,AH.aa.2 _ U⟩).mono ?_
 rintro e wz⟨rfl,kz⟩
 replace D:=D.gr kz
 replace U:=U.tr (aI.aT kz _ _)
 cases hok:bK X
 ·have HN:=ae (HB.aa Ie);have hne:(qK X != 0)=true:=by rw[Fc hok];rfl
  clear q;exact PD
 have HN:=ae (HG.aa Ie)
 have hne:(qK X != 0)=false:=by rw[Kj hok];rfl
 clear q
 have q:=D.rv.cell
 have z:=D.rv.frozen
 have q2:=D.x.cell
 go_wp2
 have P9:=D.put [.int .i64 X.kind,.int .i64 X.br,.int .u64 X.life,.int .u64 X.bV,.int .i64 X.cl,.int .u64 X.sub,.slice A6 X.f.length c6,.slice A7 X.es.length c7] rfl
 simp only[dV,Nat.reduceAdd,mi]at P9
 clear q q2 z
 generalize World.setCell _ _ _=W9 at *
 have e9:=P9.1.cell
 have U9:=U.tr P9.2.2
 refine bodyPost_ret (v:=.tuple #[.agg (aD X (.slice A6 X.f.length c6) (.slice A7 X.es.length c7)),.int .i64 0]) afC rfl ?_
 exact⟨_,PF,afD,P9.2.1⟩
def tD(x:Rec):Int:=if eo x then 0 else 110
def zx(x:Rec):List UInt8:=if eo x then bM x else []
theorem adb{x}(h:x.kind=2∨x.kind=3):bM x=az (bf x.kind)++az x.n++im (eN x.e):=by unfold bM;rw[if_pos h];simp
theorem ade{x}(h:x.kind=4∨x.kind=5):bM x=az (bf x.kind)++az x.n++fy (x.br,x.life,x.bV):=by unfold bM fy;rw[if_neg af,if_pos h];simp
theorem ad0{x}(h:x.kind=1):bM x=az (bf x.kind)++az x.n:=by unfold bM;rw[if_neg (by omega),if_neg (by omega)];simp
def owA(l:List UInt8)(v:Value)(w:World):Prop:=∃B,Own w B 5 v l
theorem axS{l v w}(h:owA l v w):sl l v w:=eK h.choose_spec
def MA(lo:Nat)(l:List UInt8)(v:Value)(w:World):Prop:=Own w lo 5 v l
theorem axT lo l:∀v w w',MA lo l v w->Below w.heap.size w w'->MA lo l v w':=λ_ _ _ h k=>pA h k
theorem UE x v w(h:pk x v w)(hfit:jT x) :
 Calls prog 213 #[v] w λe w' =>
  ∃v',e=.returned (.tuple #[v',.int .i64 (tD x)])/\Own w' w.heap.size 5 v' (zx x)/\K w w':=by
 have y:=ae λW h=>ac8 x v W h
 have h':=h
 obtain⟨vf,ve,rfl,hf,he⟩:=h
 have I:=ah.new w 197 (eS x vf ve)
 have A:=I.aS
 have L:=ae (axQ h')
 clear h'
 obtain⟨hik,S,Y,hib,hil,Ch⟩:=hfit
 cases hok:eo x
 ·have HE:Hid (tD x=110):=ae Vu;have HR:Hid (zx x=[]):=ae Vv;rw[hok]at y;clear hok;go_enter func213,ntmps213;go_wp2_with fail
  generalize w.alloc _=w1 at *;refine (y.aa _ (L.aa _ A)).mono ?_;rintro e w2⟨rfl,t⟩;go_wp2;go_ret2;exact⟨_,gX,Vq,A.tr t⟩
 have HE:Hid (tD x=0):=ae Vu
 have HR:Hid (zx x=bM x):=ae Vv
 have X:=zn hok
 rw[hok]at y
 have B:=ae λh=>ad0 (x:=x) h
 have F:=ae λh=>adb (x:=x) h
 have G:=ae λh=>ade (x:=x) h
 clear hok
 obtain⟨k,n,x,b,l,s⟩:=x
 simp only at I A hf he hik S Y hib hil Ch X HE HR y L B F G⊢
 generalize zx ⟨k,n,x,b,l,s⟩=R at *
 generalize bM ⟨k,n,x,b,l,s⟩=E at *
 generalize tD ⟨k,n,x,b,l,s⟩=C at *
 have En:∀W,K w W->cV x (.agg (aD x vf ve)) W:=λW k=>⟨vf,ve,rfl,eH _ _ _ _ hf k,bo he k⟩
 have YZ:k=1∨(k=2∨k=3)∨k=4∨k=5:=af
 have yP:k=2∨k=3->bK x=true:=by
  intro hk;rcases X with h|h|h
  ·omega
  ·exact h.2.1
  ·omega
 clear X
 go_enter func213,ntmps213
 go_wp2_with fail
 generalize w.alloc _=w1 at *
 have hz1:=A.size
 obtain⟨lo,D⟩:∃lo,Hid (lo=w.heap.size):=⟨_,ae rfl⟩
 rw[<- D.aa]at hz1
 have HG:Hid (∀W,K w W->lo<=W.heap.size):=ae λW k=>by rw[D.aa];exact k.size
 generalize w.heap.size=g at I⊢
 have qx:=I.cells
 refine (y.aa _ (L.aa _ A)).mono ?_
 rintro e w2⟨rfl,t⟩
 clear hf he y L
 go_upto_region 3 with (fail)
 have Mu:=λW (kW:K w2 W)=>qx W (t.tr kW)
 have hz2:=bn hz1 t.size
 have p0:=cI (bf k) (fW k)
 have p1:=cI n S
 have qs:=And.intro Mu (Dj k)
 refine dD 7 [([],[]),([0],[(10,0)]),([1],[(11,1)]),([2],[(12,2)]),([],[]),([4],[(14,4)]),([3,5],[(13,3),(15,5)]),([6],[(16,6)])] 42 ?_
 iterate 3 refine au.i ?_
 refine au.c (sl (az (bf k))) (nC _) (λW _=>(uB (bf k) (Xz W) (fW k) aj).mono λe w'' ⟨v',Q,ho,hb⟩=>⟨v',Q,eK (aO (az _)▸ho),hb⟩) ?_
 iterate 2 refine au.i ?_
 refine au.op (MA lo (az (bf k)++az n)) (axT _ _) (λV W kW hp=>?_) ?_
 ·simp only[cd,aO,aQ,bW,bY,aJ]at hp;simp[bP,aE,List.lookup,hp,cN,execOp,aF,go_sem];exact (uB n hp.1 S af).mono λe w'' ⟨v',Q,ho,hb⟩=>⟨v',Q,mg (bn hz2 kW.size) ho,hb⟩
 intro V w3 U hA
 simp only[aO,aQ,cz,aJ,Nat.reduceAdd]at hA
 refine aH.p (aH.h ?_)
 have h7:=hA.2.2.2.2.2.2.1
 clear hA qs
 generalize V 6=v3 at *
 have h7o:=ae h7
 replace h7:=eK h7
 clear Mu
 have p6:(az (bf k)++az n).length<=100:=aY
 have j:=A.tr (t.tr U)
 replace t:=t.tr U
 clear U
 generalize az (bf k)++az n=b3 at *
 obtain fZ|N|ajT:=YZ
 ·subst fZ;have M:=h7o.aa;rw[<- B.aa rfl,<- HR.aa]at M;have M:=ae M;clear B F G;go_wp2;go_ret2;exact⟨_,gX,by rw[<- D.aa];exact M.aa,j⟩
 ·have X4:=yP N;have T:=ae (HR.aa.trans (F.aa N));have hc1:=Kj X4;have gS:pF x=eN x:=by simp[pF,X4]
  have hlx:=Ks X4 Y;clear B F G HR;go_upto_region 5 with (fail);rcases N with rfl|rfl;all_goals
   go_wp2_with fail
   refine (TA x _ _ (En _ j) Y).mono ?_
   rintro e w4⟨v4,rfl,u,H⟩
   rw[gS]at u
   have J:=eK u
   have h74:=nC _ _ _ _ h7 H
   replace j:=j.tr H
   clear u h7
   go_wp2_with fail
   refine (O8 h74 J af af).mono ?_
   rintro e w5⟨v5,rfl,O,k5⟩
   have Z:=j
   rw[<- T.aa]at O
   have h5:=ae (show MA lo R v5 w5 from mg (HG.aa _ Z) O)
   replace j:=j.tr k5
   clear h74 J O
   go_wp2
   go_ret2
   exact⟨_,gX,by rw[<- D.aa];exact h5.aa,j⟩
 ·have T:=ae (HR.aa.trans (G.aa ajT));clear B F G HR;go_upto_region 5 with (fail);rcases ajT with rfl|rfl;all_goals
   go_wp2_with fail
   refine (abk _ _ (b,l,s) _ h7 af ⟨hib,hil,Ch⟩).mono ?_
   rintro e w4⟨v4,rfl,u,H⟩
   have Z:=j
   rw[<- T.aa]at u
   have J:=ae (show MA lo R v4 w4 from mg (HG.aa _ Z) u)
   replace j:=j.tr H
   clear u h7
   go_wp2
   go_ret2
   exact⟨_,gX,by rw[<- D.aa];exact J.aa,j⟩
theorem auX x v w(h:pk x v w)(hfit:jT x) :
 Calls prog 213 #[v] w λe w' =>
  ∃v',e=.returned (.tuple #[v',.int .i64 (tD x)])/\owA (zx x) v' w'/\K w w' :=
 (UE x v w h hfit).mono λe w' ⟨v',j,h,k⟩=>⟨v',j,⟨_,h⟩,k⟩
theorem aro x v w(h:pk x v w)(hfit:jT x) :
 Calls prog 213 #[v] w λe w' =>
  ∃v',e=.returned (.tuple #[v',.int .i64 (tD x)])/\sl (zx x) v' w'/\K w w':=by
 refine (auX x v w h hfit).mono ?_
 rintro e w'⟨v',rfl,h,k⟩
 exact⟨v',rfl,axS h,k⟩
abbrev qT:Array Value:=#[.int .i64 0,.int .u64 0,.int .i64 0,.int .i64 0,.int .u64 0,.int .u64 0,.int .i64 0,.int .u64 0,.slice none 0 0,.slice none 0 0,.int .i64 0,.int .u64 0,.int .u64 0]
abbrev zRL:List Value:=[.int .i64 0,.int .u64 0,.int .i64 0,.int .i64 0,.int .u64 0,.int .u64 0,.int .i64 0,.int .u64 0,.slice none 0 0,.slice none 0 0,.int .i64 0,.int .u64 0,.int .u64 0]
theorem auY w:pk IP (.agg qT) w:=⟨_,_,rfl,⟨none,0,rfl,Reads.nil _ _ _ _⟩,gh _ _⟩
theorem abS{b}(h:mN b=none):tz b=110/\tv b=IP:=by simp[tz,tv,h]
theorem TR{b x}(h:mN b=some x):tz b=0/\tv b=x:=by simp[tz,tv,h]
theorem apg b k n I C L y(t:ax b false=(k,I,L))(u:ax I L=(n,C,y)) j(hk:min k 6=j) :
 ((j=2∨j=3)->∀bs G E,aL b.length C y=(bs,G,E)->(iC bs=none->mN b=none)/\∀e,iC bs=some e->mN b=if !E&&G.isEmpty&&eo ⟨j,n,e,0,0,0⟩then some ⟨j,n,e,0,0,0⟩else none) /\
 ((j=4∨j=5)->∀br D A H F,DZ C y=((br,D,A),H,F)->mN b=if !F&&H.isEmpty&&eo ⟨j,n,dz,br,D,A⟩then some ⟨j,n,dz,br,D,A⟩else none) /\
 (¬(j=2∨j=3)->¬(j=4∨j=5)->mN b=if !y&&C.isEmpty&&eo ⟨j,n,dz,0,0,0⟩then some ⟨j,n,dz,0,0,0⟩else none):=by
 subst hk
 refine⟨λh bs G E J=>⟨λhn=>?_,λe N=>?_⟩,λh br D A H F B=>?_,λh M=>?_⟩
 ·unfold mN mP;simp only[t,u,h,if_true,J,hn];rfl
 ·unfold mN mP;simp only[t,u,h,if_true,J,N]
 ·have hn:¬(min k 6=2∨min k 6=3):=af;simp only[DZ,Prod.mk.injEq]at B;obtain⟨⟨rfl,rfl,rfl⟩,B⟩:=B;unfold mN mP;simp only[t,u,hn,if_false,h,if_true,B]
 ·unfold mN mP;simp only[t,u,h,M,if_false]
theorem aph b v w(h:sl b v w)(hn:b.length<=1000000000) :
 Calls prog 119 #[v] w λe w' =>
  ∃v',e=.returned (.tuple #[v',.int .i64 (tz b)])/\(∀W,aI w.heap.size none w' W->pk (tv b) v' W)/\K w w':=by
 obtain⟨A,c,rfl,hR⟩:=h
 have cS:=ah.new w 197 qT
 have k0:=cS.aS
 have AE:=(hR.below k0 (aC _)).more k0.size
 obtain⟨k,l1,e1,oG⟩:∃k l1 e1,ax b false=(k,l1,e1):=⟨_,_,_,rfl⟩
 obtain⟨n,C,G,rm⟩:∃k C G,ax l1 e1=(k,C,G):=⟨_,_,_,rfl⟩
 have hk6:min k 6<=6:=af
 have C1:=λg W h=>Kb g b false 6 W h af
 have C2:=λg W h=>sA g l1 e1 W h
 have F:=apg b k n l1 C e1 G oG rm
 have eE:C.length<=b.length:=by have g1:=nv b false;have g2:=nv l1 e1;rw[oG]at g1;rw[rm]at g2;simp only at g1 g2;omega
 simp only[oG,rm]at C1 C2
 clear oG rm
 generalize hkk:min k 6=L at *
 replace F:=ae (F L rfl)
 replace C1:=ae C1
 replace C2:=ae C2
 clear hkk
 go_enter func119,ntmps119
 go_wp2_with fail
 generalize w.alloc _=w1 at *
 refine (Kr A _ c b w1 _ AE (aC _) hn).mono ?_
 rintro e w2⟨g,rfl,hg,lD,k2⟩
 have aW:=cS.av k2
 have hrg:=bz cS.lt hg
 replace k0:=k0.tr k2
 clear hR AE hg k2 cS
 go_wp2_with fail
 refine (C1.aa g w2 lD).mono ?_
 rintro e w3⟨rfl,hw3⟩
 have dI:=aW.went hw3 af
 have k3:K w w3:=k0.trans (ky hw3.2 af k0.size)
 have vQ:=hw3.1
 have LI:=vQ.lt
 clear lD aW hw3 k0
 go_wp2_with fail
 have D:DS w 197 qT w.heap.size g w3.heap.size l1 e1 #[.int .i64 L,.int .u64 0,.int .i64 0,.int .i64 0,.int .u64 0,.int .u64 0,.int .i64 0,.int .u64 0,.slice none 0 0,.slice none 0 0,.int .i64 0,.int .u64 0,.int .u64 0] (w3.alloc (.cells #[.int .i64 L,.int .u64 0,.int .i64 0,.int .i64 0,.int .u64 0,.int .u64 0,.int .i64 0,.int .u64 0,.slice none 0 0,.slice none 0 0,.int .i64 0,.int .u64 0,.int .u64 0] 197)) :=
  ⟨vQ.al _,ah.new _ _ _,dI.alloc _,k3.al _,aC _,hrg,LI⟩
 clear vQ dI k3 LI hrg
 generalize w3.alloc _=w4 at *
 generalize w3.heap.size=h at *
 refine (C2.aa g w4 D.rd).mono ?_
 rintro e w5⟨rfl,Mw⟩
 replace D:=D.went Mw
 clear Mw
 have q:=D.x.cell
 have z:=D.x.frozen
 go_upto_region 4 with (fail)
 replace D:DS w 197 qT w.heap.size g h C G #[.int .i64 L,.int .u64 n,.int .i64 0,.int .i64 0,.int .u64 0,.int .u64 0,.int .i64 0,.int .u64 0,.slice none 0 0,.slice none 0 0,.int .i64 0,.int .u64 0,.int .u64 0] _:=D.sets 1 [.int .u64 n]
 simp only[dV,Nat.reduceAdd]at D
 clear q z C1 C2
 generalize w5.setCell _ _=R at *
 have Rt:=D.o
 have LJ:((b.length:Nat):Int)<=9223372036854775807:=af
 have q:=D.x.cell
 go_upto_block 0 with (fail)
 go_cut [6,7]from 18 to 39 (fun _ _ W=>∃(X:Rec) (l:List UInt8) (e:Bool) (vf ve:Value),DS w 197 qT w.heap.size g h l e (eS X vf ve) W /\
  (∀W',aI (h+1) none W W'->fu X.e.f vf W')/\(∀W',aI (h+1) none W W'->aq cG X.e.es ve W')/\Hid (mN b=if !e&&l.isEmpty&&eo X then some X else none))
 case first =>
  by_cases hk2:L=2
  ·subst hk2;replace D:DS w 197 qT w.heap.size g h C G #[.int .i64 2,.int .u64 n,.int .i64 0,.int .i64 0,.int .u64 0,.int .u64 0,.int .i64 0,.int .u64 0,.slice none 0 0,.slice none 0 0,.int .i64 0,.int .u64 0,.int .u64 0] R:=D;replace F:=ae (F.aa.1 ay);simp only[show ((2:Nat):Int)=2 from rfl]at F;go_wp2_with fail
   clear q;refine (Ku g C G (b.length:Int) R D.rd af af LJ).mono ?_;rintro e wc⟨vb,rfl,Z,O⟩;replace D:=D.went O;have hlb:=Hy (b.length:Int) C G;obtain⟨bs,N,Q,hB⟩:∃bs N Q,aL (b.length:Int) C G=(bs,N,Q):=⟨_,_,_,rfl⟩;have HQ:=ae (F.aa bs N Q hB);rw[hB]at Z D hlb;simp only at Z D hlb;clear O hB F;have rW:=D.x.lt;go_wp2_with fail
   refine (TC bs _ _ Z af).mono ?_;rintro e wd⟨v9,rfl,hen,k9⟩;replace D:=D.gr k9;clear Z;obtain⟨vf,ve,rfl,Gf,AJ⟩:=hen _ (aI.rf _ _ _);obtain⟨B,j,rfl⟩:=b6 Gf;obtain⟨t,y,rfl⟩:=aw AJ;clear Gf AJ;have kU:=ae hen;clear hen;have S:=ah.new wd 126 (aD (lJ bs) (.slice B (lJ bs).f.length j) (.slice t (lJ bs).es.length y));have kE:=S.aS;have DE:=D.gr kE;cases ke:iC bs with
   | none => exact afE
   | some en =>
    have fI:=T3 ke;rw[fI.2]at S kE DE kU;rw[fI.1,fI.2];have HD:=ae (HQ.aa.2 en ke);clear ke fI HQ D;go_upto_region 10 with (fail);generalize wd.alloc _=we at *;have D:=DE;clear DE;have q2:=S.cell;have q:=D.x.cell;have z:=D.x.frozen;go_wp2;replace D:DS w 197 qT w.heap.size g h N Q #[.int .i64 2,.int .u64 n,.int .i64 en.kind,.int .i64 en.br,.int .u64 en.life,.int .u64 en.bV,.int .i64 en.cl,.int .u64 en.sub,.slice B en.f.length j,.slice t en.es.length y,.int .i64 0,.int .u64 0,.int .u64 0] _:=D.sets 2 [.int .i64 en.kind,.int .i64 en.br,.int .u64 en.life,.int .u64 en.bV,.int .i64 en.cl,.int .u64 en.sub,.slice B en.f.length j,.slice t en.es.length y];simp only[dV,Nat.reduceAdd]at D;have UX:=(aI.aT kE (h+1) none).tr (aI.sets (Nat.lt_succ_self h) [.int .i64 en.kind,.int .i64 en.br,.int .u64 en.life,.int .u64 en.bV,.int .i64 en.cl,.int .u64 en.sub,.slice B en.f.length j,.slice t en.es.length y] 2 _);simp only[dV,Nat.reduceAdd]at UX;have X5:Hid (∀W',aI (h+1) none wd W'->cV en (.agg (aD en (.slice B en.f.length j) (.slice t en.es.length y))) W'):=ae λW' u=>kU.aa W' (u.more af (λ_ _ _=>aj))
    clear q q2 z kU S;generalize World.setCell _ _ _=M at *;have I:∀W',aI (h+1) none M W'->fu en.f (.slice B en.f.length j) W':=λW' u=>by exact afF
    have J:∀W',aI (h+1) none M W'->aq cG en.es (.slice t en.es.length y) W':=λW' u=>by exact afG
    go_wp2;go_meet
    case rel=>exact⟨(⟨2,n,en,0,0,0⟩:Rec),N,Q,.slice B en.f.length j,.slice t en.es.length y,D,I,J,HD⟩
  by_cases ja:L=3
  ·subst ja;replace D:DS w 197 qT w.heap.size g h C G #[.int .i64 3,.int .u64 n,.int .i64 0,.int .i64 0,.int .u64 0,.int .u64 0,.int .i64 0,.int .u64 0,.slice none 0 0,.slice none 0 0,.int .i64 0,.int .u64 0,.int .u64 0] R:=D;replace F:=ae (F.aa.1 ay);simp only[show ((3:Nat):Int)=3 from rfl]at F;go_wp2_with fail
   clear q;refine (Ku g C G (b.length:Int) R D.rd af af LJ).mono ?_;rintro e wc⟨vb,rfl,Z,O⟩;replace D:=D.went O;have hlb:=Hy (b.length:Int) C G;obtain⟨bs,N,Q,hB⟩:∃bs N Q,aL (b.length:Int) C G=(bs,N,Q):=⟨_,_,_,rfl⟩;have HQ:=ae (F.aa bs N Q hB);rw[hB]at Z D hlb;simp only at Z D hlb;clear O hB F;have rW:=D.x.lt;go_wp2_with fail
   refine (TC bs _ _ Z af).mono ?_;rintro e wd⟨v9,rfl,hen,k9⟩;replace D:=D.gr k9;clear Z;obtain⟨vf,ve,rfl,Gf,AJ⟩:=hen _ (aI.rf _ _ _);obtain⟨B,j,rfl⟩:=b6 Gf;obtain⟨t,y,rfl⟩:=aw AJ;clear Gf AJ;have kU:=ae hen;clear hen;have S:=ah.new wd 126 (aD (lJ bs) (.slice B (lJ bs).f.length j) (.slice t (lJ bs).es.length y));have kE:=S.aS;have DE:=D.gr kE;cases ke:iC bs with
   | none => exact afE
   | some en =>
    have fI:=T3 ke;rw[fI.2]at S kE DE kU;rw[fI.1,fI.2];have HD:=ae (HQ.aa.2 en ke);clear ke fI HQ D;go_upto_region 10 with (fail);generalize wd.alloc _=we at *;have D:=DE;clear DE;have q2:=S.cell;have q:=D.x.cell;have z:=D.x.frozen;go_wp2;replace D:DS w 197 qT w.heap.size g h N Q #[.int .i64 3,.int .u64 n,.int .i64 en.kind,.int .i64 en.br,.int .u64 en.life,.int .u64 en.bV,.int .i64 en.cl,.int .u64 en.sub,.slice B en.f.length j,.slice t en.es.length y,.int .i64 0,.int .u64 0,.int .u64 0] _:=D.sets 2 [.int .i64 en.kind,.int .i64 en.br,.int .u64 en.life,.int .u64 en.bV,.int .i64 en.cl,.int .u64 en.sub,.slice B en.f.length j,.slice t en.es.length y];simp only[dV,Nat.reduceAdd]at D;have UX:=(aI.aT kE (h+1) none).tr (aI.sets (Nat.lt_succ_self h) [.int .i64 en.kind,.int .i64 en.br,.int .u64 en.life,.int .u64 en.bV,.int .i64 en.cl,.int .u64 en.sub,.slice B en.f.length j,.slice t en.es.length y] 2 _);simp only[dV,Nat.reduceAdd]at UX;have X5:Hid (∀W',aI (h+1) none wd W'->cV en (.agg (aD en (.slice B en.f.length j) (.slice t en.es.length y))) W'):=ae λW' u=>kU.aa W' (u.more af (λ_ _ _=>aj))
    clear q q2 z kU S;generalize World.setCell _ _ _=M at *;have I:∀W',aI (h+1) none M W'->fu en.f (.slice B en.f.length j) W':=λW' u=>by exact afF
    have J:∀W',aI (h+1) none M W'->aq cG en.es (.slice t en.es.length y) W':=λW' u=>by exact afG
    go_wp2;go_meet
    case rel=>exact⟨(⟨3,n,en,0,0,0⟩:Rec),N,Q,.slice B en.f.length j,.slice t en.es.length y,D,I,J,HD⟩
  obtain⟨⟨br,H,E⟩,l5,e5,hI⟩:∃(i:aR) (l5:List UInt8) (e5:Bool),DZ C G=(i,l5,e5):=⟨_,_,_,rfl⟩;have T:=λW h=>abB g C G W h
  have MC:=ae λh=>F.aa.2.1 h br H E l5 e5 hI
  rw[hI]at T;simp only at T;replace T:=ae T;clear hI;by_cases YX:L=4
  ·subst YX;replace D:DS w 197 qT w.heap.size g h C G #[.int .i64 4,.int .u64 n,.int .i64 0,.int .i64 0,.int .u64 0,.int .u64 0,.int .i64 0,.int .u64 0,.slice none 0 0,.slice none 0 0,.int .i64 0,.int .u64 0,.int .u64 0] R:=D;have HD:=ae (MC.aa ay);simp only[show ((4:Nat):Int)=4 from rfl]at HD;go_wp2_with fail
   clear q;refine (T.aa R D.rd).mono ?_;rintro e wc⟨rfl,O⟩;replace D:=D.went O;clear O F MC T;have q:=D.x.cell;have z:=D.x.frozen;go_wp2;replace D:DS w 197 qT w.heap.size g h l5 e5 #[.int .i64 4,.int .u64 n,.int .i64 0,.int .i64 0,.int .u64 0,.int .u64 0,.int .i64 0,.int .u64 0,.slice none 0 0,.slice none 0 0,.int .i64 br,.int .u64 H,.int .u64 E] _:=D.sets 10 [.int .i64 br,.int .u64 H,.int .u64 E];simp only[dV,Nat.reduceAdd]at D;clear q z;generalize World.setCell _ _ _=M at *;have I:∀W',aI (h+1) none M W'->fu dz.f (.slice none 0 0) W':=λ_ _=>⟨none,0,rfl,Reads.nil _ _ _ _⟩
   have J:∀W',aI (h+1) none M W'->aq cG dz.es (.slice none 0 0) W':=λ_ _=>gh cG _
   go_wp2;go_meet
   case rel=>exact⟨(⟨4,n,dz,br,H,E⟩:Rec),l5,e5,.slice none 0 0,.slice none 0 0,D,I,J,HD⟩
  by_cases YZ:L=5
  ·subst YZ;replace D:DS w 197 qT w.heap.size g h C G #[.int .i64 5,.int .u64 n,.int .i64 0,.int .i64 0,.int .u64 0,.int .u64 0,.int .i64 0,.int .u64 0,.slice none 0 0,.slice none 0 0,.int .i64 0,.int .u64 0,.int .u64 0] R:=D;have HD:=ae (MC.aa ay);simp only[show ((5:Nat):Int)=5 from rfl]at HD;go_wp2_with fail
   clear q;refine (T.aa R D.rd).mono ?_;rintro e wc⟨rfl,O⟩;replace D:=D.went O;clear O F MC T;have q:=D.x.cell;have z:=D.x.frozen;go_wp2;replace D:DS w 197 qT w.heap.size g h l5 e5 #[.int .i64 5,.int .u64 n,.int .i64 0,.int .i64 0,.int .u64 0,.int .u64 0,.int .i64 0,.int .u64 0,.slice none 0 0,.slice none 0 0,.int .i64 br,.int .u64 H,.int .u64 E] _:=D.sets 10 [.int .i64 br,.int .u64 H,.int .u64 E];simp only[dV,Nat.reduceAdd]at D;clear q z;generalize World.setCell _ _ _=M at *;have I:∀W',aI (h+1) none M W'->fu dz.f (.slice none 0 0) W':=λ_ _=>⟨none,0,rfl,Reads.nil _ _ _ _⟩
   have J:∀W',aI (h+1) none M W'->aq cG dz.es (.slice none 0 0) W':=λ_ _=>gh cG _
   go_wp2;go_meet
   case rel=>exact⟨(⟨5,n,dz,br,H,E⟩:Rec),l5,e5,.slice none 0 0,.slice none 0 0,D,I,J,HD⟩
  have HD:=ae (F.aa.2.2 af af);clear F MC T;have I:∀W',aI (h+1) none R W'->fu dz.f (.slice none 0 0) W':=λ_ _=>⟨none,0,rfl,Reads.nil _ _ _ _⟩
  have J:∀W',aI (h+1) none R W'->aq cG dz.es (.slice none 0 0) W':=λ_ _=>gh cG _
  have g2:((L:Int)==2)=false:=aY;have g3:((L:Int)==3)=false:=aY;have g4:((L:Int)==4)=false:=aY;have g5:((L:Int)==5)=false:=aY;go_wp2;go_wp2;go_meet
  case rel=>exact⟨(⟨L,n,dz,0,0,0⟩:Rec),C,G,.slice none 0 0,.slice none 0 0,D,I,J,HD⟩
 case rest =>
 clear D q
 obtain⟨⟨Y,V,en,br,H,E⟩,l,e,vf,ve,D,I,J,HD⟩:=hcut
 obtain⟨B,j,rfl⟩:=b6 (I _ (aI.rf _ _ _))
 obtain⟨t,y,rfl⟩:=aw (J _ (aI.rf _ _ _))
 have Rt:=D.o
 simp only at D I J
 have U:=aI.rf (h+1) none wc
 have AH:Hid ((∀W',aI (h+1) none wc W'->fu (Rec.e (⟨Y,V,en,br,H,E⟩:Rec)).f (.slice B en.f.length j) W')/\∀W',aI (h+1) none wc W'->aq cG (Rec.e (⟨Y,V,en,br,H,E⟩:Rec)).es (.slice t en.es.length y) W'):=ae ⟨I,J⟩
 clear I J
 go_wp2_with fail
 refine (Kg g _ _ _ D.rd).mono ?_
 rintro e w'⟨rfl,rfl⟩
 have HB:Hid ((!e&&l.isEmpty&&eo (⟨Y,V,en,br,H,E⟩:Rec))=false->tz b=110/\tv b=IP):=ae λh=>abS PE
 have HG:Hid ((!e&&l.isEmpty&&eo (⟨Y,V,en,br,H,E⟩:Rec))=true->tz b=0/\tv b=(⟨Y,V,en,br,H,E⟩:Rec)):=ae λh=>TR PE
 clear HD
 cases hd:(!e&&l.isEmpty)
 ·have HN:=ae (HB.aa Vt);have q:=D.rv.cell;have z:=D.rv.frozen;exact Vw
 have q:=D.x.cell
 go_wp2_with fail
 refine (ac8 (⟨Y,V,en,br,H,E⟩:Rec) _ _ ⟨_,_,rfl,AH.aa.1 _ U,AH.aa.2 _ U⟩).mono ?_
 rintro e wz⟨rfl,kz⟩
 replace D:=D.gr kz
 replace U:=U.tr (aI.aT kz _ _)
 cases hok:eo (⟨Y,V,en,br,H,E⟩:Rec)
 ·have HN:=ae (HB.aa Ie);clear q;have q:=D.rv.cell;have z:=D.rv.frozen;exact Vw
 have HN:=ae (HG.aa Ie)
 clear q
 have q:=D.rv.cell
 have z:=D.rv.frozen
 have q2:=D.x.cell
 go_wp2
 have P9:=D.put [.int .i64 Y,.int .u64 V,.int .i64 en.kind,.int .i64 en.br,.int .u64 en.life,.int .u64 en.bV,.int .i64 en.cl,.int .u64 en.sub,.slice B en.f.length j,.slice t en.es.length y,.int .i64 br,.int .u64 H,.int .u64 E] rfl
 simp only[dV,Nat.reduceAdd,mi]at P9
 clear q q2 z
 generalize World.setCell _ _ _=W9 at *
 have e9:=P9.1.cell
 have U9:=U.tr P9.2.2
 refine bodyPost_ret (v:=.tuple #[.agg #[.int .i64 Y,.int .u64 V,.int .i64 en.kind,.int .i64 en.br,.int .u64 en.life,.int .u64 en.bV,.int .i64 en.cl,.int .u64 en.sub,.slice B en.f.length j,.slice t en.es.length y,.int .i64 br,.int .u64 H,.int .u64 E],.int .i64 0]) afH rfl ?_
 exact⟨_,PF,afD,P9.2.1⟩
def eB(x:aK):Prop:=x.f.length<=1000000/\x.es.length<=1000000/\∀e∈x.es,e.length<=1000000
structure dc where
 life:Nat
 list:List aK
 prom:List aK
 ab:List aR
def dw:dc:=⟨0,[],[],[]⟩
def ar(x:aK):aR:=(x.br,x.life,x.bV)
def iA(x:Rec):aR:=(x.br,x.life,x.bV)
def bT(l:List aK)(a:aR):Bool:=l.any λx=>decide (ar x=a)
def dG(l:List aR)(a:aR):Bool:=l.any λx=>decide (x=a)
def iM(l:List aK)(a:aR):List aK:=l.filter λx=>!decide (ar x=a)
def yQ(s:dc)(r:Rec):Option dc:=if r.n<=s.life then none else some ⟨r.n,s.list,s.prom,s.ab⟩
def xj(s:dc)(r:Rec):Option dc:=if ¬r.n=s.list.length then none else if bT s.list (ar r.e)then none else if dG s.ab (ar r.e)then none else some ⟨s.life,s.list++[r.e],iM s.prom (ar r.e),s.ab⟩
def xm(s:dc)(r:Rec):Option dc:=if bT s.list (ar r.e)then none else if bT s.prom (ar r.e)then none else if dG s.ab (ar r.e)then none else some ⟨s.life,s.list,s.prom++[r.e],s.ab⟩
def xp(s:dc)(r:Rec):Option dc:=if bT s.list (iA r)then none else if dG s.ab (iA r)then none else some ⟨s.life,s.list,iM s.prom (iA r),s.ab++[iA r]⟩
def yR(s:dc)(r:Rec):Option dc:=if bT s.prom (iA r)then some ⟨s.life,s.list,iM s.prom (iA r),s.ab⟩else none
def dU(s:dc)(r:Rec):Option dc:=if r.kind=1 then yQ s r else if r.kind=2 then xj s r else if r.kind=3 then xm s r else if r.kind=4 then xp s r else yR s r
def mj(s:dc)(r:Rec):dc×Int:=if eo r then (match dU s r with|none=>(s,160)|some t=>(t,0))else (s,110)
structure eF where
 e:aK
 asked:Bool
 deriving DecidableEq
def kL(x:aK):aR:=(x.br,x.life,x.bV)
def ajz(x:aK):List UInt8:=if bK x then eN x else []
def rN(x:aK):Bool:=decide (3000<(ajz x).length)
def oh(a:aR)(t:eF):Bool:=decide (kL t.e=a)
def ju(l:List eF)(a:aR):Option Nat:=l.findIdx? (oh a)
def rK(l:List eF)(a:aR):Int:=match ju l a with|some k=>(k:Int)|none=>-1
def uP(l:List eF)(a:aR):Option Nat:=match ju l a with|some k=>if (l[k]?.map eF.asked)=some true then none else some k|none=>none
def DP(l:List eF)(a:aR):Int:=match uP l a with|some k=>(k:Int)|none=>-1
def vD(l:List eF)(t:eF):List eF×Int :=
 if (ju l (kL t.e)).isSome then (l,170)else if bK t.e=false then (l,110)else if 8<=l.length then (l,171)else if rN t.e then (l,172)else (l++[t],0)
def vE(a:aR)(c:Int):aK:=⟨1,a.1,a.2.1,a.2.2,c,0,[],[]⟩
def xZ(l:List eF)(a:aR)(c:Int):List eF×Int:=vD l ⟨vE a c,false⟩
def mm(x:aK)(e:List cT):aK:={ x with es:=x.es++[e] }
def iY(l:List eF)(a:aR)(e:List cT):List eF×Int :=
 match uP l a with
 | none=>(l,170)
 | some k=>match l[k]? with
  | none=>(l,170)
  | some t=>if fB e=false then (l,40)else if 8<=t.e.es.length then (l,171)else if rN (mm t.e e)then (l,172)else (l.set k ⟨mm t.e e,t.asked⟩,0)
def jG(l:List eF)(a:aR):List eF×Int :=
 match uP l a with
 | none=>(l,170)
 | some k=>match l[k]? with
  | none=>(l,170)
  | some t=>(l.set k ⟨t.e,true⟩,0)
def fJ(l:List eF)(a:aR):List eF:=match ju l a with|none=>l|some k=>l.eraseIdx k
def ajc(l:List eF)(a:aR):List eF×Int:=if (uP l a).isSome then (fJ l a,0)else (l,170)
def wZ(l:List eF)(x:aK):List eF×Int:=vD l ⟨x,true⟩
def je(l:List eF):List aK:=((l.filter eF.asked).map eF.e).take 4
def vF:eF:=⟨dz,false⟩
def sG(l:List eF)(a:aR):eF×Bool:=match l.find? (oh a)with|some t=>(t,true)|none=>(vF,false)
structure ayE where
 kind:Int
 id:aR
 cl:Int
 e:List cT
 x:aK
def ajA(l:List eF)(c:ayE):List eF×Int :=
 if c.kind=1 then xZ l c.id c.cl else if c.kind=2 then iY l c.id c.e else if c.kind=3 then jG l c.id else if c.kind=4 then ajc l c.id
 else if c.kind=5 then wZ l c.x else if c.kind=6 then (fJ l c.id,0)else (l,0)
structure jo(l:List eF):Prop where
 len:l.length<=8
 each:∀t∈l,bK t.e=true/\cD t.e/\rN t.e=false
 Gm:∀(i j:Nat) (s t:eF),l[i]?=some s->l[j]?=some t->kL s.e=kL t.e->i=j
theorem Kk{l a k}(h:ju l a=some k):∃t,l[k]?=some t/\kL t.e=a/\∀j,j<k->∀s,l[j]?=some s->kL s.e≠a:=by
 grind [ju,List.findIdx?_eq_some_iff_getElem,List.getElem?_eq_getElem,oh]
theorem acu{l a}(h:ju l a=none):∀t∈l,kL t.e≠a:=by
 grind [ju,kL,oh]
theorem aDR{l a}(B:jo l){k:Nat}{t}(hk:l[k]?=some t)(y:kL t.e=a):sG l a=(t,true):=by
 unfold sG
 cases hf:l.find? (oh a)with
 | none =>
  grind [kL,sG,oh]
 | some s =>
  have u:kL s.e=a:=by grind [oh]
  obtain⟨j,A⟩:=List.mem_iff_getElem?.1 (List.mem_of_find?_eq_some hf)
  have:=B.Gm j k s t A hk (u.trans y.symm)
  grind
theorem arp{l a}(h:∀t∈l,kL t.e≠a):sG l a=(vF,false):=by
 grind [kL,sG,vF,oh]
theorem OK{l a k}(h:uP l a=some k):∃t,l[k]?=some t/\kL t.e=a/\t.asked=false/\ju l a=some k:=by
 grind [uP,Kk]
theorem jo.nil:jo []:=⟨aj,aj,aj⟩
theorem jo.set{l}(B:jo l){k t u}(hk:l[k]?=some t)(L:kL u.e=kL t.e)(G:bK u.e=true/\cD u.e/\rN u.e=false):jo (l.set k u):=by
 have J:=(List.getElem?_eq_some_iff.1 hk).1;refine⟨by simpa using B.len,λs y=>?_,λi j s r y D M=>?_⟩
 ·rcases List.mem_or_eq_of_mem_set y with y|rfl
  ·exact B.each s y
  ·exact G
 ·have key:∀(i:Nat) (s:eF),(l.set k u)[i]?=some s->∃A,l[i]?=some A/\kL A.e=kL s.e:=by
   grind
  obtain⟨A,C,H⟩:=key i s y;obtain⟨E,F,I⟩:=key j r D;exact B.Gm i j A E C F aG
theorem jo.snoc{l}(y:jo l){t}(h8:l.length<8)(hn:∀s∈l,kL s.e≠kL t.e)(F:bK t.e=true/\cD t.e/\rN t.e=false):jo (l++[t]):=by
 refine⟨aG,λs u=>?_,λi j s r u B D=>?_⟩
 ·rcases List.mem_append.1 u with u|u
  ·exact y.each s u
  ·grind
 ·have key:∀(i:Nat) (s:eF),(l++[t])[i]?=some s->(i<l.length/\l[i]?=some s)∨(i=l.length/\s=t):=by
   grind
  rcases key i s u with ⟨E,A⟩|⟨rfl,rfl⟩
  ·rcases key j r B with ⟨G,C⟩|⟨rfl,rfl⟩
   ·exact y.Gm i j s r A C D
   grind
  grind
theorem jo.erase{l}(y:jo l) k:jo (l.eraseIdx k):=by
 refine⟨bn (List.length_eraseIdx_le l k) y.len,λs t=>y.each s (List.mem_of_mem_eraseIdx t),λi j s r t u A=>?_⟩;rw[List.getElem?_eraseIdx]at t u;split at t <;> split at u
 ·exact y.Gm i j s r t u A
 ·have:=y.Gm i (j+1) s r t u A;omega
 ·have:=y.Gm (i+1) j s r t u A;omega
 ·have:=y.Gm (i+1) (j+1) s r t u A;omega
theorem PG{l}(j:jo l) t(u:cD t.e):jo (vD l t).1:=by
 unfold vD;split
 ·exact j
 ·rename_i y;split
  ·exact j
  ·rename_i A;split
   ·exact j
   ·split
    ·exact j
    ·rename_i h8 hb;have hn:ju l (kL t.e)=none:=Pm;exact j.snoc af (acu hn) ⟨aG,u,aG⟩
theorem as2{x e}(h:bK x=true)(hk:x.kind=1)(h8:x.es.length<8)(j:fB e=true):bK (mm x e)=true:=by
 grind [bK,fB,mm]
theorem ad1{l}(hl:jo l) c(hi:cJ c.id.1/\c.id.2.1<18446744073709551616/\c.id.2.2<18446744073709551616)(hc:cJ c.cl)(O:∀a∈c.e,mX a)(D:cD c.x)
 (F:∀t∈l,t.asked=false->t.e.kind=1):jo (ajA l c).1:=by
 unfold ajA
 split
 ·exact PG hl _ awq
 ·split
  ·unfold iY;split
   ·exact hl
   ·rename_i k hk;obtain⟨t,j,I,u,_⟩:=OK hk;rw[j];simp only;split
    ·exact hl
    ·rename_i Q;split
     ·exact hl
     ·rename_i h8;split
      ·exact hl
      ·rename_i hb;obtain⟨y,C,N⟩:=hl.each t (List.mem_of_getElem? j);refine hl.set j rfl ⟨as2 y (F t (List.mem_of_getElem? j) u) af aG,?_,aG⟩;obtain⟨G,H,B,L,A,E,J,R⟩:=C;refine⟨G,H,B,L,A,E,J,?_⟩;intro e M;rcases List.mem_append.1 M with h|h;all_goals grind
  ·split
   ·unfold jG;split
    ·exact hl
    ·rename_i k hk;obtain⟨t,j,I,u,_⟩:=OK hk;rw[j];exact hl.set j rfl (hl.each t (List.mem_of_getElem? j))
   ·split
    ·unfold ajc;exact afI
    ·split
     ·exact PG hl _ D
     ·exact afI
section
open Go Go.RowKit Go.ChangeShapes Go.WideShapes Go.ChangeAt
abbrev gE(t:eF)(vf ve:Value):Array Value:=#[.int .i64 t.e.kind,.int .i64 t.e.br,.int .u64 (t.e.life:Int),.int .u64 (t.e.bV:Int),.int .i64 t.e.cl,.int .u64 (t.e.sub:Int),vf,ve,.bool t.asked]
def cW:dW eF where
 size:=9
 rel t cs w:=∃vf j,cs=(gE t vf j).toList/\fu t.e.f vf w/\aq cG t.e.es j w
 len:=by rintro _ _ _⟨vf,j,rfl,_⟩;rfl
 one:=by rintro x _ _⟨vf,j,rfl,⟨A,c,rfl,_⟩,⟨D,d,rfl,_⟩⟩ u y;simp at y;rcases y with rfl|rfl|rfl|rfl|rfl|rfl|rfl|rfl|rfl <;> rfl
 st:=by rintro _ _ _ _⟨vf,j,rfl,B,C⟩ k;exact⟨vf,j,rfl,eH _ _ _ _ B k,bo C k⟩
def MD(t:eF)(v:Value)(w:World):Prop:=∃vf j,v=.agg (gE t vf j)/\fu t.e.f vf w/\aq cG t.e.es j w
end
