/-
  The walk of wire.Decode (layer 13). Conditions: at most a milliard bytes.
-/
import Derived.Test.YtfndfpdhlbmboaaGreatMa26
import Derived.Deep.CutBlock
import Derived.Test.YtfndfpdhlbmboaaGreatMz
set_option maxRecDepth 100000
set_option linter.constructorNameAsVariable false
set_option maxHeartbeats 16000000
set_option linter.unusedVariables false
set_option linter.unusedSimpArgs false
namespace Go.Proofs.YtfndfpdhlbmboaaGreat
open Go Go.RowKit _root_.Go.Proofs.Tryz
abbrev zML:List Value:=[.int .i64 0,.int .u64 0,.slice none 0 0,.slice none 0 0,.slice none 0 0,.slice none 0 0,.slice none 0 0,.slice none 0 0]
abbrev I5:Array Value:=#[.int .i64 0,.int .u64 0,.slice none 0 0,.slice none 0 0,.slice none 0 0,.slice none 0 0,.slice none 0 0,.slice none 0 0]
theorem avS w:lF yr (.agg I5) w:=⟨_,_,_,_,_,_,rfl,gh _ _,gh _ _,gh _ _,gh _ _,gh _ _,gh _ _⟩
structure DM(w0:World)(r g gw h:Nat)(n:Int)(l:List UInt8)(wr bd:Bool)(cs:Array Value)(W:World):Prop where
 rw:RW gw g n l wr bd W
 x:ah W h 156 cs
 rv:ah W r 156 I5
 k:K w0 W
 o:w0.heap.size<=r/\r<g/\g<gw/\gw<h
section
variable {w0 W W':World} {r g gw h:Nat} {n:Int} {l l':List UInt8} {wr bd wr' JY:Bool} {cs:Array Value}
theorem DM.aX(D:DM w0 r g gw h n l wr bd cs W)(u:ag (XW gw g) W W')(t:RW gw g n l' wr' JY W'):DM w0 r g gw h n l' wr' JY cs W':=by
 have o:=D.o;have k:=D.k;exact⟨t,D.x.aX u BB,D.rv.aX u BB,
  ⟨u.os.trans k.os,u.tape.trans k.tape,u.output.trans k.output,bn k.size u.size,λi j=>(u.block i (bz j k.size) BB).trans (k.block i j)⟩,o⟩
theorem DM.set(D:DM w0 r g gw h n l wr bd cs W) i u:DM w0 r g gw h n l wr bd (cs.setIfInBounds i u) (W.setCell ⟨h,i,none⟩ u):=by have o:=D.o;exact⟨D.rw.far o.2.2.2 i u,D.x.aM i u,D.rv.far aY u,D.k.setCell aY u,o⟩
theorem DM.st(D:DM w0 r g gw h n l wr bd cs W)(k:K W W'):DM w0 r g gw h n l wr bd cs W':=⟨D.rw.st k,D.x.av k,D.rv.av k,D.k.tr k,D.o⟩
theorem ag.mono{X j}(h:ag X W W')(A:∀k,X k->j k):ag j W W':=⟨h.os,h.tape,h.output,h.size,λk t u=>h.block k t (λy=>u (A k y))⟩
theorem nF.less{α S gb j}{x:List α}{v}(t:nF S gb x v W)(hg:j<=gb):nF S j x v W:=λW' u=>t W' (u.mono (λk hk=>af))
theorem nF.mv{α S gb}{x:List α}{v}(y:nF S gb x v W)(u:ag (λk=>k<gb) W W'):nF S gb x v W':=λt j=>y t (u.tr j)
theorem nF.sl{α S gb}{x:List α}{v}(j:nF S gb x v W):∃A c,v=.slice A x.length c:=aw (j W (ag.rf _ _))
theorem H8{α}(S:dW α) gb W:nF S gb [] (.slice none 0 0) W:=λ_ _=>gh _ _
end
def NM(h:Nat)(m:fw)(j t B y u A:Value)(W:World):Prop:=nF nL (h+1) m.cK j W/\nF aU (h+1) m.asks t W/\nF aU (h+1) m.entries B W/\nF aU (h+1) m.fc y W/\nF b5 (h+1) m.dN u W/\nF b5 (h+1) m.ends A W
structure DL(w0:World)(r g gw h:Nat)(n:Int)(l:List UInt8)(wr bd:Bool)(m:fw)(v1 v2 v3 v4 v5 v6:Value)(W:World):Prop where
 d:DM w0 r g gw h n l wr bd (km m v1 v2 v3 v4 v5 v6) W
 m:NM h m v1 v2 v3 v4 v5 v6 W
section
variable {w0 W W':World} {r g gw h:Nat} {n:Int} {l l':List UInt8} {wr bd wr' JY:Bool} {m m':fw} {v1 v2 v3 v4 v5 v6 u1 u2 u3 u4 u5 u6:Value}
theorem NM.mv(H:NM h m v1 v2 v3 v4 v5 v6 W)(u:ag (λk=>k<h+1) W W'):NM h m v1 v2 v3 v4 v5 v6 W' :=
 ⟨H.1.mv u,H.2.1.mv u,H.2.2.1.mv u,H.2.2.2.1.mv u,H.2.2.2.2.1.mv u,H.2.2.2.2.2.mv u⟩
theorem DL.go(D:DL w0 r g gw h n l wr bd m v1 v2 v3 v4 v5 v6 W)(u:ag (XW gw g) W W')(j:RW gw g n l' wr' JY W'):DL w0 r g gw h n l' wr' JY m v1 v2 v3 v4 v5 v6 W' :=
 ⟨D.d.aX u j,D.m.mv (u.mono λk hk=>by have:=D.d.o;rcases hk with hk|hk <;> omega)⟩
theorem DL.put(D:DL w0 r g gw h n l wr bd m v1 v2 v3 v4 v5 v6 W) i v(H:NM h m' u1 u2 u3 u4 u5 u6 W)(e:(km m v1 v2 v3 v4 v5 v6).setIfInBounds i v=km m' u1 u2 u3 u4 u5 u6):DL w0 r g gw h n l wr bd m' u1 u2 u3 u4 u5 u6 (W.setCell ⟨h,i,none⟩ v) :=
 ⟨e▸D.d.set i v,H.mv (ag.bL (X:=λk=>k<h+1) (Nat.lt_succ_self h) i v)⟩
theorem DM.put(D:DM w0 w0.heap.size g gw h n l wr bd (km m v1 v2 v3 v4 v5 v6) W) us(j:us.length=8):ah (dV W w0.heap.size 0 us) w0.heap.size 156 us.toArray/\K w0 (dV W w0.heap.size 0 us)/\ag (λk=>k<h+1) W (dV W w0.heap.size 0 us) :=
 ⟨Fq D.rv j,K.sets (aC _) _ _ _ D.k,ag.sets (X:=λk=>k<h+1) Vr _ _ _⟩
end
theorem aoF b v w(hb:sl b v w)(hn:b.length<=1000000000) :
 Calls prog 113 #[v] w λe w'=>∃v',e=.returned (.tuple #[v',.int .i64 (uQ b)])/\(∀W,ag (λk=>k<w.heap.size) w' W->lF (oT b) v' W)/\K w w':=by
 obtain⟨A,c,rfl,t⟩:=hb
 have cS:=ah.new w 156 I5
 have k0:=cS.aS
 have AE:=(t.below k0 (aC _)).more k0.size
 obtain⟨n,Ai⟩:∃n:Int,n=(b.length:Int):=⟨_,rfl⟩
 have hn0:0<=n:=af
 have dA:n<=1000000000:=af
 obtain⟨k,l1,eP,F,oG⟩:∃k l1 eP F,lu 3 b false false=(k,l1,eP,F):=⟨_,_,_,_,rfl⟩
 obtain⟨got,C,I,rm⟩:∃got C I,ax l1 eP=(got,C,I):=⟨_,_,_,rfl⟩
 have hHd:gy b false false=((k,got),C,I,F):=by simp only[gy,lN,BX,oG,rm]
 have ja:k<3:=by have:=zy 3 (by omega) b false false;rw[oG]at this;exact this
 have eE:C.length<=1000000000:=by have g1:=(zo 3 af).len b false false;have g2:=nv l1 eP;rw[oG]at g1;rw[rm]at g2;simp only at g1 g2;omega
 have hwk:IntKind.i64.wrap (k:Int)=k:=Lf
 have Y:=λgw g W h=>Hn gw g n b false false 3 W h af
 have C2:=λg W h=>sA g l1 eP W h
 simp only[oG,rm]at Y C2
 rw[show ((3:Nat):Int)=3 from rfl]at Y
 have S:Hid (sM b=if !(mF n b false false).2.2.2&&(!(mF n b false false).2.2.1&&(mF n b false false).2.1.isEmpty)&&dZ (mF n b false false).1 then some (mF n b false false).1 else none):=ae (by rw[Ai];rfl)
 have R:=ae hHd
 have Y:=ae Y
 have C2:=ae C2
 have G9:Hid (uQ b=if (sM b).isSome then 0 else 130):=ae rfl
 have HMX:Hid (oT b=(sM b).getD yr):=ae rfl
 generalize uQ b=CK at *
 generalize oT b=MX at *
 have hzz:w.heap.size<(w.alloc (.cells I5 156)).heap.size:=aj
 clear hHd oG rm t
 go_enter func113,ntmps113
 go_wp2_with fail
 generalize w.alloc _=w1 at *
 refine (Kr A _ c b w1 _ AE (aC _) hn).mono ?_
 rintro e w2⟨g,rfl,hg,oy,k2⟩
 have aW:=cS.av k2
 have hrg:=bz hzz hg
 replace k0:=k0.tr k2
 have gA:=oy.lt
 clear AE k2 cS hzz hg
 have hw3:RW w2.heap.size g n b false false (w2.alloc (.cells #[.pointer (some ⟨g,0,none⟩),.int .i64 b.length,.bool false] 264)):=by rw[<- Ai];exact⟨ah.new _ _ _,oy.al _,gA⟩
 have U:=K.new w2 (.cells #[.pointer (some ⟨g,0,none⟩),.int .i64 b.length,.bool false] 264)
 go_upto_region 2 with (fail)
 generalize w2.alloc _=w3 at *
 have dI:=aW.av U
 have J:=k0.tr U
 generalize cP:w2.heap.size=gw at *
 clear U aW k0 oy cP
 go_wp2_with fail
 refine (Y.aa gw g w3 hw3).mono ?_
 rintro e w4⟨rfl,h4,Q⟩
 have ey:=dI.aX Q BB
 have ir:=h4.lt
 have D:DM w w.heap.size g gw w4.heap.size n l1 eP F #[.int .i64 k,.int .u64 0,.slice none 0 0,.slice none 0 0,.slice none 0 0,.slice none 0 0,.slice none 0 0,.slice none 0 0]
  (w4.alloc (.cells #[.int .i64 k,.int .u64 0,.slice none 0 0,.slice none 0 0,.slice none 0 0,.slice none 0 0,.slice none 0 0,.slice none 0 0] 156)):=by
  have U:=(K.rf w4).al (.cells #[.int .i64 k,.int .u64 0,.slice none 0 0,.slice none 0 0,.slice none 0 0,.slice none 0 0,.slice none 0 0,.slice none 0 0] 156)
  refine⟨h4.st U,ah.new _ _ _,ey.av U,Below.tr ?_ U,aC _,hrg,gA,ir⟩
  exact⟨Q.os.trans J.os,Q.tape.trans J.tape,Q.output.trans J.output,bn J.size Q.size,λi hi=>(Q.block i (bz hi J.size) BB).trans (J.block i hi)⟩
 clear hw3 dI J h4 Q ey Y
 go_upto_region 3 with (fail)
 generalize w4.alloc _=w5 at *
 generalize w4.heap.size=h at *
 have q:=D.rw.1.cell
 go_wp2_with fail
 refine (C2.aa g w5 D.rw.2.1).mono ?_
 rintro e w6⟨rfl,sS⟩
 replace D:=D.aX (ag.went (X:=XW gw g) sS (.inl rfl)) (D.rw.went sS)
 clear q sS C2
 have q:=D.x.cell
 have z:=D.x.frozen
 go_upto_region 4 with (fail)
 replace D:DL w w.heap.size g gw h n C I F ⟨k,got,[],[],[],[],[],[]⟩ (.slice none 0 0) (.slice none 0 0) (.slice none 0 0) (.slice none 0 0) (.slice none 0 0) (.slice none 0 0) (w6.setCell ⟨h,1,none⟩ (.int .u64 got)):=⟨D.set 1 _,H8 _ _ _,H8 _ _ _,H8 _ _ _,H8 _ _ _,H8 _ _ _,H8 _ _ _⟩
 clear q z
 generalize w6.setCell _ _=w7 at *
 have o:=D.d.o
 clear Ai Y ir
 have q:=D.d.x.cell
 go_upto_block 0 with (fail)
 clear q
 go_cut []from 24 to 45 (fun W=>∃(M:fw) (l:List UInt8) (wr bd:Bool) (v1 v2 v3 v4 v5 v6:Value),DL w w.heap.size g gw h n l wr bd M v1 v2 v3 v4 v5 v6 W/\Hid (sM b=if !bd&&(!wr&&l.isEmpty)&&dZ M then some M else none))
 case first =>
  by_cases fZ:k=1
  ·subst fZ;have y:=S.aa;rw[VC R.aa]at y;obtain⟨L,V,Ca,O,T⟩:∃x l w c,gI mY C I F=(x,l,w,c):=⟨_,_,_,_,rfl⟩;have Z:=bn ((wK T5).len C I F) eE;have B:=λW G=>aom gw g n C I F W G eE hn0 dA
   simp only[T]at B Z;have B:=ae B;obtain⟨x2,l4,Tb,Tc,N⟩:∃x l w c,gI (iP n) V Ca O=(x,l,w,c):=⟨_,_,_,_,rfl⟩;have kP:=bn ((wK (E8 n)).len V Ca O) Z;have H:=λW G=>Ts gw g n V Ca O W G Z hn0 dA
   simp only[N]at H kP;have H:=ae H;simp only[zT,lN,T,N]at y;have HD:=ae y;clear S R hwk y T N;go_wp2_with fail
   refine (B.aa w7 D.d.rw).mono ?_;rintro e E⟨v,rfl,j,t,u⟩;replace j:=j.less (show h+1<=w7.heap.size from D.d.x.lt);obtain⟨A3,c3,rfl⟩:=j.sl;replace D:=D.go u t;clear u t B;have q:=D.d.x.cell;have z:=D.d.x.frozen;go_upto_region 7 with (fail);replace D:=D.put (m':=⟨1,got,L,[],[],[],[],[]⟩) 2 _ ⟨j,D.m.2⟩ rfl;clear q z j;generalize E.setCell _ _=NN at *;go_wp2_with fail
   refine (H.aa NN D.d.rw).mono ?_;rintro e E⟨v,rfl,j,t,u⟩;replace j:=j.less (show h+1<=NN.heap.size from D.d.x.lt);obtain⟨A4,c4,rfl⟩:=j.sl;replace D:=D.go u t;clear u t H;have q:=D.d.x.cell;have z:=D.d.x.frozen;go_upto_region 13 with (fail);replace D:=D.put (m':=⟨1,got,L,x2,[],[],[],[]⟩) 3 _ ⟨D.m.1,j,D.m.2.2⟩ rfl;clear q z j;generalize E.setCell _ _=wb4 at *;exact Xb
  by_cases hk2:k=2
  ·subst hk2;have y:=S.aa;rw[VD R.aa]at y;obtain⟨L,V,Ca,O,T⟩:∃x l w c,gI (iP n) C I F=(x,l,w,c):=⟨_,_,_,_,rfl⟩;have Z:=bn ((wK (E8 n)).len C I F) eE;have B:=λW G=>Ts gw g n C I F W G eE hn0 dA
   simp only[T]at B Z;have B:=ae B;obtain⟨x2,l4,Tb,Tc,N⟩:∃x l w c,gI (iP n) V Ca O=(x,l,w,c):=⟨_,_,_,_,rfl⟩;have kP:=bn ((wK (E8 n)).len V Ca O) Z;have H:=λW G=>Ts gw g n V Ca O W G Z hn0 dA
   simp only[N]at H kP;have H:=ae H;obtain⟨x3,l5,wr5,bd5,EE⟩:∃x l w c,gI iD l4 Tb Tc=(x,l,w,c):=⟨_,_,_,_,rfl⟩;have Ci:=bn ((wK Hj).len l4 Tb Tc) kP;have L5:=λW G=>abu gw g n l4 Tb Tc W G kP hn0 dA
   simp only[EE]at L5 Ci;have L5:=ae L5;obtain⟨x4,l6,wr6,bd6,hB6⟩:∃x l w c,gI iD l5 wr5 bd5=(x,l,w,c):=⟨_,_,_,_,rfl⟩;have hl6:=bn ((wK Hj).len l5 wr5 bd5) Ci;have L6:=λW G=>abu gw g n l5 wr5 bd5 W G Ci hn0 dA
   simp only[hB6]at L6 hl6;have L6:=ae L6;simp only[oZ,lN,T,N,EE,hB6]at y;have HD:=ae y;clear S R hwk y T N EE hB6;go_wp2_with fail
   refine (B.aa w7 D.d.rw).mono ?_;rintro e E⟨v,rfl,j,t,u⟩;replace j:=j.less (show h+1<=w7.heap.size from D.d.x.lt);obtain⟨A3,c3,rfl⟩:=j.sl;replace D:=D.go u t;clear u t B;have q:=D.d.x.cell;have z:=D.d.x.frozen;go_upto_region 10 with (fail);replace D:=D.put (m':=⟨2,got,[],[],L,[],[],[]⟩) 4 _ ⟨D.m.1,D.m.2.1,j,D.m.2.2.2⟩ rfl;clear q z j;generalize E.setCell _ _=NN at *;go_wp2_with fail
   refine (H.aa NN D.d.rw).mono ?_;rintro e E⟨v,rfl,j,t,u⟩;replace j:=j.less (show h+1<=NN.heap.size from D.d.x.lt);obtain⟨A4,c4,rfl⟩:=j.sl;replace D:=D.go u t;clear u t H;have q:=D.d.x.cell;have z:=D.d.x.frozen;go_upto_region 11 with (fail);replace D:=D.put (m':=⟨2,got,[],[],L,x2,[],[]⟩) 5 _ ⟨D.m.1,D.m.2.1,D.m.2.2.1,j,D.m.2.2.2.2⟩ rfl;clear q z j;generalize E.setCell _ _=wb4 at *;go_wp2_with fail
   refine (L5.aa wb4 D.d.rw).mono ?_;rintro e E⟨v,rfl,j,t,u⟩;replace j:=j.less (show h+1<=wb4.heap.size from D.d.x.lt);obtain⟨A5,c5,rfl⟩:=j.sl;replace D:=D.go u t;clear u t L5;have q:=D.d.x.cell;have z:=D.d.x.frozen;go_upto_region 12 with (fail);replace D:=D.put (m':=⟨2,got,[],[],L,x2,x3,[]⟩) 6 _ ⟨D.m.1,D.m.2.1,D.m.2.2.1,D.m.2.2.2.1,j,D.m.2.2.2.2.2⟩ rfl;clear q z j;generalize E.setCell _ _=wb5 at *;go_wp2_with fail
   refine (L6.aa wb5 D.d.rw).mono ?_;rintro e E⟨v,rfl,j,t,u⟩;replace j:=j.less (show h+1<=wb5.heap.size from D.d.x.lt);obtain⟨A6,c6,rfl⟩:=j.sl;replace D:=D.go u t;clear u t L6;have q:=D.d.x.cell;have z:=D.d.x.frozen;go_upto_region 13 with (fail);replace D:=D.put (m':=⟨2,got,[],[],L,x2,x3,x4⟩) 7 _ ⟨D.m.1,D.m.2.1,D.m.2.2.1,D.m.2.2.2.1,D.m.2.2.2.2.1,j⟩ rfl;clear q z j;generalize E.setCell _ _=wb6 at *;exact Xb
  have y:=S.aa;rw[ajg R.aa fZ hk2]at y;have HD:=ae y;have hkk:¬(k:Int)=1:=af;have aEq:¬(k:Int)=2:=af;clear S R fZ hk2 hwk y;exact Xb
 case rest =>
 clear D S R
 obtain⟨M,l,wr,bd,v1,v2,v3,v4,v5,v6,D,HD⟩:=hcut
 obtain⟨A1,c1,rfl⟩:=D.m.1.sl
 obtain⟨A2,c2,rfl⟩:=D.m.2.1.sl
 obtain⟨A3,c3,rfl⟩:=D.m.2.2.1.sl
 obtain⟨A4,c4,rfl⟩:=D.m.2.2.2.1.sl
 obtain⟨A5,c5,rfl⟩:=D.m.2.2.2.2.1.sl
 obtain⟨A6,c6,rfl⟩:=D.m.2.2.2.2.2.sl
 have JT:Hid (∀W,ag (λk=>k<h+1) wc W->lF M (.agg (km M (.slice A1 M.cK.length c1) (.slice A2 M.asks.length c2) (.slice A3 M.entries.length c3) (.slice A4 M.fc.length c4) (.slice A5 M.dN.length c5) (.slice A6 M.ends.length c6))) W):=ae λW u=>⟨_,_,_,_,_,_,rfl,D.m.1 W u,D.m.2.1 W u,D.m.2.2.1 W u,D.m.2.2.2.1 W u,D.m.2.2.2.2.1 W u,D.m.2.2.2.2.2 W u⟩
 replace D:=D.d
 obtain⟨dn,sw⟩:∃dn,dn=(!wr&&l.isEmpty):=⟨_,rfl⟩
 obtain⟨ok,hok⟩:∃ok,ok=dZ M:=⟨_,rfl⟩
 rw[<- sw,<- hok]at HD
 have HDN:=ae sw
 have jO:=ae hok
 clear sw hok
 have qw:=D.rw.1.cell
 cases bd
 rotate_left
 ·exact Xc
 go_wp2_with fail
 refine (Kg g _ _ _ D.rw.2.1).mono ?_
 rintro e w8⟨rfl,rfl⟩
 rw[<- HDN.aa]
 cases dn
 ·exact Xc
 have qm:=D.x.cell
 go_wp2_with fail
 refine (abC M (.agg (km M (.slice A1 M.cK.length c1) (.slice A2 M.asks.length c2) (.slice A3 M.entries.length c3) (.slice A4 M.fc.length c4) (.slice A5 M.dN.length c5) (.slice A6 M.ends.length c6))) wc (JT.aa _ (ag.rf _ _))).mono ?_
 rintro e w9⟨rfl,k9⟩
 replace D:=D.st k9
 clear qw qm
 cases ok
 ·have Gd:iE M=130:=by unfold iE;rw[<- jO.aa];rfl
  rw[Gd];clear Gd;exact Xc
 have Gd:iE M=0:=by unfold iE;rw[<- jO.aa];rfl
 rw[Gd]
 clear Gd
 have q:=D.rv.cell
 have q2:=D.x.cell
 have z:=D.rv.frozen
 have ajI:Hid (sM b=some M):=ae (by rw[HD.aa];simp)
 obtain rfl:CK=0:=by rw[G9.aa,ajI.aa];rfl
 obtain rfl:MX=M:=by rw[HMX.aa,ajI.aa];rfl
 go_wp2
 have P9:=D.put [.int .i64 MX.kind,.int .u64 MX.got,.slice A1 MX.cK.length c1,.slice A2 MX.asks.length c2,.slice A3 MX.entries.length c3,.slice A4 MX.fc.length c4,.slice A5 MX.dN.length c5,.slice A6 MX.ends.length c6] rfl
 simp only[dV,Nat.reduceAdd,mi]at P9
 clear q q2 z
 generalize World.setCell _ _ _=W9 at *
 have e9:=P9.1.cell
 have o:=D.o
 refine bodyPost_ret (v:=.tuple #[.agg (km MX (.slice A1 MX.cK.length c1) (.slice A2 MX.asks.length c2) (.slice A3 MX.entries.length c3) (.slice A4 MX.fc.length c4) (.slice A5 MX.dN.length c5) (.slice A6 MX.ends.length c6)),.int .i64 0]) aip rfl ?_
 exact⟨_,rfl,λW u=>JT.aa W (((ag.aT k9 _).tr P9.2.2).tr (u.mono λk hk=>bz hk af)),P9.2.1⟩
def Lp(B:bj)(j:Int):Bool:=decide (j∈oU B)
def Lq(B:bj)(j:Int):Bool:=!mQ B&&decide (j=xb B)
def Lh(B:bj)(t:Int)(j par:Bool)(m:fw):bj×Int:=if j&&decide (m.kind=1)then (gZ { B with bQ:=nV B.bQ t m },0)else if par&&decide (m.kind=2)then (qO B m,0)else (B,201)
theorem asm B j b:il B j b=if Lp B j||Lq B j then (if uQ b=0 then Lh B j (Lp B j) (Lq B j) (oT b)else (B,uQ b))else (B,201):=by
 unfold il Lp Lq Lh;split
 ·cases hd:sM b with
  | none=>simp[uQ,hd]
  | some m=>simp[uQ,oT,hd]
 ·rfl
theorem avT{B}{m:Nat}(h1:B.me=(m:Int))(h2:m<B.par.length):xb B=B.par[m]:=aih
theorem ao8{M p B w}(h:bA M p B w)(D:bD B)(hF:kN B)(gV:B.told.length+16<=1000000) j b vb(hb:sl b vb w)(bR:b.length<=1000000000) :
 Calls prog 57 #[.pointer (some ⟨p.g,0,none⟩),.int .i64 j,vb] w λe w'=>e=.returned (.int .i64 (il B j b).2)/\dC M p (il B j b).1 w w':=by
 have HE:=ae (asm B j b)
 have hlo:=h.low
 have akx:=λk hk=>h.low k (h.sub k hk)
 have HV:=ae λW (k:K w W)=>h.st k
 have CK:=ae (TS h D)
 have Q:=ae λW (k:K w W)=>OG (h.st k)
 have CD:=ae λW (k:K w W)=>aoF b vb W (nC _ _ _ _ hb k) bR
 have pg:(oU B).length<=16:=bn (Hv _ _) (sD D.tr).2
 have q:=h.q
 have Cf:=D.me
 have hpl:=(sD D.tr).2
 simp only[fT,dE,decide_eq_true_eq]at Cf
 obtain⟨mn,vT⟩:=Int.eq_ofNat_of_zero_le Cf.1
 have NI:mn<B.par.length:=af
 have NJ:=ae (avT vT NI)
 have Mf:=h.bI.now.par
 have y:Hid (Lq B j=(!mQ B&&decide (j=xb B))):=ae rfl
 have HIK:Hid (Lp B j=decide (j∈oU B)):=ae rfl
 have HG:=ae D
 have HF:=ae hF
 obtain⟨A0,c0,rfl,-⟩:=hb
 obtain⟨g,hg⟩:∃g,Hid (g=p.g):=⟨_,ae rfl⟩
 rw[<- hg.aa]at CK Q q⊢
 obtain⟨pv,hpv⟩:∃pv,Hid (pv=p.vp):=⟨_,ae rfl⟩
 simp only[Gy]at q
 rw[<- hpv.aa,vT]at q
 rw[<- hpv.aa]at Mf
 obtain⟨Ap,cp,rfl,Mg,-⟩:=Mf
 obtain⟨bp,op,rfl,hcell⟩:=ints_at Mg af
 have qp:=λW (k:K w W)=>hcell W k mn NI
 have uv:(mn:Int)<(B.par.length:Int):=af
 have vW:=ae hlo
 have HLX:=ae akx
 have kk:=K.rf w
 clear h D hF Mg hcell Cf vT hlo akx
 generalize Lp B j=t at *
 generalize Lq B j=par at *
 generalize oU B=ks at *
 go_enter func57,ntmps57
 go_wp2_with fail
 refine CK.aa.mono ?_
 rintro e w1⟨v1,rfl,dM,k1⟩
 have C2:=ae (abf ks j v1 w1 dM.aq af)
 obtain⟨A1,c1,rfl⟩:=dM.slice
 clear CK dM
 go_wp2_with fail
 refine C2.aa.mono ?_
 rintro e U⟨rfl,k2⟩
 have S:=k1.tr k2
 rw[<- HIK.aa]
 clear C2 HIK
 go_upto_region 4 with (fail)
 have q2:=λW (k:K U W)=>q W (S.tr k)
 have He:=λW (k:K U W)=>qp W (S.tr k)
 have hb2:=NJ.aa.symm
 rw[hb2]at He
 generalize xb B=pb at *
 clear q qp hb2
 go_cut [8]from 17 to 33 (fun v W=>v=.bool par/\K U W)
 case first =>
  have C3:=ae λW (k:K U W)=>Q.aa W (S.tr k)
  cases hr:mQ B
  ·rw[hr]at C3 y;have HP:Hid (par=decide (j=pb)):=ae (by rw[y.aa];rfl);clear hr y Q;have ke:(j==pb)=decide (j=pb):=Qs;have qs:=And.intro q2 (And.intro He uv);refine dD 17 [([],[]),([0],[(17,0)]),([1],[(18,1)]),([2],[(19,2)]),([3],[]),([3],[]),([3,5],[(22,5)]),([3,6],[(23,6)]),([3,7],[(24,7)]),([3],[]),([3,9],[(26,9)]),([3,10],[(27,10)]),([3,11],[(28,11)]),([3,8,12],[(25,8),(29,12)]),([3,13],[(30,13)]),([3,4,14],[(21,4),(31,14)]),([3,15],[(20,3),(32,15)]),([0,1,2,3,4,5,6,7,8,9,10,11,12,13,14,15,16],[(33,16)])] 73 ?_;refine au.i ?_;refine au.is (.bool false) (λV W kW hp=>?_) ?_
   ·(try simp only[cd,aO,aQ,bW,bY,aJ]at hp)
    exact aiq
   iterate 15 refine au.i ?_
   clear qs;intro V W kW hA;simp only[aO,aQ,cz,aJ,Nat.reduceAdd]at hA;obtain⟨J,N,I,F,E,C,f6,f7,f8,f9,f10,f11,f12,f13,f14,f15,H,-⟩:=hA;refine aH.pure (.bool par) rfl (by simp[aE,List.lookup,H,HP.aa,ke,execOp,aF,go_sem]) ?_;refine aH.e ?_;clear J N I F E C f6 f7 f8 f9 f10 f11 f12 f13 f14 f15 H q2 He C3 ke;go_wp2_with fail
   go_meet
   case rel=>exact⟨rfl,kW⟩
  ·rw[hr]at C3 y;have HP:Hid (par=false):=ae (by rw[y.aa];rfl);clear hr y Q;have qs:=And.intro q2 (And.intro He uv);refine dD 17 [([],[]),([0],[(17,0)]),([1],[(18,1)]),([2],[(19,2)]),([3],[]),([3],[]),([3,5],[(22,5)]),([3,6],[(23,6)]),([3,7],[(24,7)]),([3],[]),([3,9],[(26,9)]),([3,10],[(27,10)]),([3,11],[(28,11)]),([3,8,12],[(25,8),(29,12)]),([3,13],[(30,13)]),([3,4,14],[(21,4),(31,14)]),([3,15],[(20,3),(32,15)]),([0,1,2,3,4,5,6,7,8,9,10,11,12,13,14,15,16],[(33,16)])] 73 ?_;refine au.i ?_;refine au.is (.bool true) (λV W kW hp=>?_) ?_
   ·(try simp only[cd,aO,aQ,bW,bY,aJ]at hp)
    exact aiq
   iterate 15 refine au.i ?_
   clear qs;intro V W kW hA;simp only[aO,aQ,cz,aJ,Nat.reduceAdd]at hA;obtain⟨J,N,I,F,E,C,f6,f7,f8,f9,f10,f11,f12,f13,f14,f15,H,-⟩:=hA;refine aH.pure (.bool par) rfl (by simp[aE,List.lookup,H,HP.aa,execOp,aF,go_sem]) ?_;refine aH.e ?_;clear J N I F E C f6 f7 f8 f9 f10 f11 f12 f13 f14 f15 H q2 He C3;go_wp2_with fail
   go_meet
   case rel=>exact⟨rfl,kW⟩
 case rest =>
  obtain⟨rfl,k3⟩:=hcut;have Y:=S.tr k3;clear q2 He y NJ Q;go_upto_region 5 with (fail);go_cut [39]from 34 to 38 (fun v W=>v=.bool (!(t||par))/\wc=W)
  case first =>
   cases t <;> cases par
   all_goals
    go_wp2_with fail
    go_meet
    case rel=>exact⟨rfl,rfl⟩
  case rest =>
   obtain⟨rfl,rfl⟩:=hcut;cases Gg:t||par
   ·have HR:Hid (il B j b=(B,201)):=ae air;have HN:=ae ((HV.aa w kk).n Y);clear HE Gg CD;exact ais
   have HR:Hid (il B j b=if uQ b=0 then Lh B j t par (oT b)else (B,uQ b)):=ae air;clear HE Gg;have CD4:=ae (CD.aa wc Y);clear CD;go_wp2_with fail
   refine CD4.aa.mono ?_;rintro e w4⟨vm,rfl,hm,k4⟩;have qi:=Y.tr k4;obtain⟨m1,m2,m3,m4,m5,m6,rfl,jL,hm2,rV,vR,Em,yK⟩:=hm w4 (ag.rf _ _);obtain⟨A1',c1',rfl⟩:=aw jL;obtain⟨Nj,Nk,rfl⟩:=aw hm2;obtain⟨A3',c3',rfl⟩:=aw rV;obtain⟨A4',c4',rfl⟩:=aw vR;obtain⟨A5',c5',rfl⟩:=aw Em;obtain⟨A6',c6',rfl⟩:=aw yK;have hsz:=Y.size;have HM:=ae (show Fx M (λW=>lF (oT b) (.agg (km (oT b) (.slice A1' (oT b).cK.length c1') (.slice Nj (oT b).asks.length Nk) (.slice A3' (oT b).entries.length c3') (.slice A4' (oT b).fc.length c4') (.slice A5' (oT b).dN.length c5') (.slice A6' (oT b).ends.length c6'))) W) w4 from λW u=>hm W (u.more λk hk=>bz (vW.aa k hk) hsz));have jO:Hid (uQ b=0->dZ (oT b)=true/\pT (oT b)):=ae λh=>by
    cases hd:sM b with
    | none=>rw[(show uQ b=130 by simp[uQ,hd])]at h;cases h
    | some m => rw[show oT b=m by simp[oT,hd]];exact⟨(OY hd).2,Pe hd⟩
   generalize oT b=m at *;generalize uQ b=ec at *;have T:=ah.new w4 156 (km m (.slice A1' m.cK.length c1') (.slice Nj m.asks.length Nk) (.slice A3' m.entries.length c3') (.slice A4' m.fc.length c4') (.slice A5' m.dN.length c5') (.slice A6' m.ends.length c6'));have k5:=T.aS;clear hm jL hm2 rV vR Em yK CD4;go_upto_region 8 with (fail);generalize World.alloc w4 _=A at *;generalize s5:w4.heap.size=gx at T⊢;have G:=qi.tr k5;have HM5:=ae (HM.aa.k k5);clear s5;by_cases X:ec=0;rotate_left
   ·have fU:Hid (il B j b=(B,ec)):=ae (by rw[HR.aa,if_neg X]);have hne:(ec != 0)=true:=by simpa using X
    have HN:=ae ((HV.aa w kk).n G);clear HR X jO;go_wp2;go_ret;exact⟨by rw[fU.aa];rfl,by rw[fU.aa];exact HN.aa⟩
   subst X;obtain⟨hok,hfit⟩:=jO.aa rfl;have fU:Hid (il B j b=Lh B j t par m):=ae (by rw[HR.aa,if_pos rfl]);have HMM:Hid (Lh B j t par m=if t&&decide (m.kind=1)then (gZ { B with bQ:=nV B.bQ j m },0)else if par&&decide (m.kind=2)then (qO B m,0)else (B,201)):=ae rfl;have YE:=ae hok;have yz:=ae hfit;clear HR jO hok hfit;have qx:=T.cell;go_upto_region 11 with (fail);go_cut [48]from 49 to 54 (fun v W=>v=.bool (t&&decide (m.kind=1))/\A=W)
   case first =>
    cases t
    ·go_wp2_with fail
     go_meet
     case rel=>exact⟨rfl,rfl⟩
    ·have hd:Hid ((m.kind==1)=decide (m.kind=1)):=ae Qs;exact ait
   case rest =>
    obtain⟨rfl,rfl⟩:=hcut;have G3:=ae λW (k:K A W)=>HV.aa W (G.tr k)
    cases hc1:t&&decide (m.kind=1)
    ·have HQ:Hid (il B j b=if par&&decide (m.kind=2)then (qO B m,0)else (B,201)):=ae aiu;clear fU HMM hc1;go_upto_region 14 with (fail);go_cut [63]from 64 to 69 (fun v W=>v=.bool (par&&decide (m.kind=2))/\A=W)
     case first =>
      cases par
      ·go_wp2_with fail
       go_meet
       case rel=>exact⟨rfl,rfl⟩
      ·have hd:Hid ((m.kind==2)=decide (m.kind=2)):=ae Qs;exact ait
     case rest =>
      obtain⟨rfl,rfl⟩:=hcut;cases gS:par&&decide (m.kind=2)
      ·have HQ2:Hid (il B j b=(B,201)):=ae aiv;have HN:=ae ((HV.aa w kk).n G);clear HQ gS;exact aiw
      ·have HQ2:Hid (il B j b=(qO B m,0)):=ae aiv;have hA:=(Qi YE.aa yz.aa).2.2.2.2.2.1;have L:∀W,ag M A W->aq nL m.cK (.slice A1' m.cK.length c1') W/\aq aU m.asks (.slice Nj m.asks.length Nk) W/\aq aU m.entries (.slice A3' m.entries.length c3') W/\aq aU m.fc (.slice A4' m.fc.length c4') W/\aq b5 m.dN (.slice A5' m.dN.length c5') W/\aq b5 m.ends (.slice A6' m.ends.length c6') W:=λW u=>by obtain⟨_,_,_,_,_,_,e,h⟩:=HM5.aa W u;cases e;exact h
       have L0:=L A (ag.rf _ _);have O:=aqF (G3.aa A (K.rf _)) HG.aa m _ _ _ _ _ _ L0.1 L0.2.1 (λW u=>(L W u).2.2.1) (λW u=>(L W u).2.2.2.1) (λW u=>(L W u).2.2.2.2.1) (λW u=>(L W u).2.2.2.2.2) YE.aa yz.aa af;rw[<- hg.aa]at O;have O:=ae O;clear HQ gS L L0;go_wp2_with fail
       refine O.aa.mono ?_;rintro e w6⟨rfl,R⟩;have HN:=ae (R.y4 G HLX.aa);clear O R qx;exact aiw
    ·have HQ:Hid (il B j b=(gZ { B with bQ:=nV B.bQ j m },0)):=ae aiu;clear fU HMM hc1;have jr:=hg.aa;subst jr;have q5:=λW (k:K A W)=>(G3.aa W k).q W (K.rf _)
     simp only[Gy]at q5;have qx5:=T.cells;clear qx;go_wp2_with fail
     have qs:=And.intro q5 qx5;refine dD 6 [([],[]),([0],[(55,0)]),([1],[(56,1)]),([2],[(57,2)]),([],[]),([],[]),([0,1,2,3,4,5],[(58,3),(59,4),(60,5)])] 73 ?_;iterate 6 refine au.i ?_
     clear qs;intro V W kW hA;simp only[aO,aQ,cz,aJ,Nat.reduceAdd]at hA;obtain⟨J,N,I,F,E,C,-⟩:=hA;obtain⟨w7,jy,MR,hu7⟩:=asl (G3.aa W kW) j HF.aa.nk (HM5.aa.k kW);refine aH.skip w7 rfl (by simp[aE,List.lookup,F,E,C,execOp,aF,jy,go_sem]) ?_;refine aH.e ?_;have G8:=G.tr kW;have Z:=acd MR (O5 (k:=j) HG.aa YE.aa yz.aa);have U7:=ae ((ag.aT G8 (bw p)).tr (hu7.more λk e=>.inr (.inl e)));have Z:=ae Z;clear jy MR hu7 q5 qx5 J N I F E C;go_wp2_with fail
     refine Z.aa.mono ?_;rintro e w8⟨rfl,R⟩;have HN:=ae (dC.tr (p:=p) (M:=M) U7.aa rfl (λk hk=>.inl hk) (λk hk=>hk) R);clear Z R;go_wp2;go_ret;exact⟨ny,by rw[HQ.aa];exact HN.aa⟩
theorem asn c x r s n:mS c (x :: r) s n=if oP s c x=[]then mS c r (kK s x) (n+1)else (oP s c x,n+1):=rfl
theorem aqU{M p B w}(h:bA M p B w)(D:bD B) c j :
 Calls prog 50 #[.pointer (some ⟨p.g,0,none⟩),.int .i64 c,.int .i64 j] w λe w'=>∃v',e=.returned (.tuple #[v',.int .i64 (oW B c j).2.1,.int .i64 (oW B c j).2.2])/\aV w.heap.size w.heap.size 51 cG (oW B c j).1 v' w'/\K w w':=by
 have iz:=D.DD
 have jn:=D.dk.len
 have q:=h.q
 have rT:=h.bI.now.list
 have HP:Hid (oW B c j=if BH B c then (if 0<=j/\j<=(B.st.list.length:Int)then ((mS c (B.st.list.drop j.toNat) (jW (B.st.list.take j.toNat)) j.toNat).1,((mS c (B.st.list.drop j.toNat) (jW (B.st.list.take j.toNat)) j.toNat).2:Int),0)else ([],0,1))else ([],0,200)):=ae rfl
 have y:=ae (ab0 h D c)
 have S:=ae λW (k:K w W) n hn=>ab8 (h.st k) D n hn
 obtain⟨g,gl,gd,gr,gt,vd,vr,vp,vh,vl,vq,va,vt,vf,vw,kr⟩:=p
 simp only at q rT y S
 obtain⟨Al,cl,rfl,hl,hcl⟩:=rT
 have wy:B.st.list.length<=300000:=af
 have sf:=ae iz.1
 generalize oW B c j=R at *
 generalize MZ:BH B c=HB at *
 clear h D iz jn MZ
 go_enter func50,ntmps50
 go_wp2_with fail
 refine y.aa.mono ?_
 rintro e w1⟨rfl,k1⟩
 clear y
 cases HB
 ·have HF:Hid (R=([],0,200)):=ae WJ;clear HP;exact Xd
 by_cases E:0<=j/\j<=(B.st.list.length:Int)
 rotate_left
 ·have HF:Hid (R=([],0,1)):=ae (by rw[HP.aa,if_pos rfl,if_neg E]);have N:j<0∨(¬j<0/\(B.st.list.length:Int)<j):=af;clear HP E;rcases N with N|⟨N,gS⟩
  ·exact Xd
  ·exact Xd
 obtain⟨n,rfl⟩:=Int.eq_ofNat_of_zero_le E.1
 have hn:n<=B.st.list.length:=af
 have HF:Hid (R=((mS c (B.st.list.drop n) (jW (B.st.list.take n)) n).1,((mS c (B.st.list.drop n) (jW (B.st.list.take n)) n).2:Int),0)):=ae (by rw[HP.aa,if_pos rfl,if_pos E];rfl)
 have hL0:=Uq (B.st.list.take n)
 have GU:=ahl (l:=B.st.list.take n) λx A=>sf.aa x (lM A)
 have aEr:(B.st.list.take n).length=n:=aY
 have hh1:¬((n:Int)<0):=af
 have u:=ae (S.aa w1 k1 n hn)
 clear HP E
 go_upto_region 8 with (fail)
 go_wp2_with fail
 refine u.aa.mono ?_
 rintro e w2⟨v2,rfl,cA,k2⟩
 have aky:aA (λk=>k<w.heap.size) w.heap.size 246 iu (jW (B.st.list.take n)) v2 w2:=(cA.less λk hk=>by have:=k1.size;omega).low k1.size
 generalize jW (B.st.list.take n)=s0 at *
 have bC:=k1.tr k2
 clear u S cA
 go_wp2_with fail
 have hG0:=HF
 clear HF
 go_loopw [10,11,12,13] (fun o i _ _ W=>∃(m:Nat) (s:List lA),m<=B.st.list.length/\i=.int .i64 m/\s.length<=m/\DT s/\aA (fun k=>k<w.heap.size) w.heap.size 246 iu s o W/\K w W/\Hid (R=((mS c (B.st.list.drop m) s m).1,((mS c (B.st.list.drop m) s m).2:Int),0))) (fun _ i _ _ _=>B.st.list.length-(intOf i).toNat)
 case atStart=>exact⟨n,s0,hn,rfl,af,GU,aky,bC,hG0⟩
 case round =>
  clear aky bC hG0 GU hL0;obtain⟨m,s,hm,rfl,mA,G,U,kr,H⟩:=hrel;by_cases O:m<B.st.list.length
  ·have aP:(m:Int)<B.st.list.length:=af;obtain⟨b1,off,cs,rfl,eJ,hrl,d0,d⟩:=ed hl m O ay;have T:=sf.aa _ (bS O);have F:Hid (R=((if oP s c B.st.list[m]=[]then mS c (B.st.list.drop (m+1)) (kK s B.st.list[m]) (m+1)else (oP s c B.st.list[m],m+1)).1,((if oP s c B.st.list[m]=[]then mS c (B.st.list.drop (m+1)) (kK s B.st.list[m]) (m+1)else (oP s c B.st.list[m],m+1)).2:Int),0)):=ae (by
    rw[H.aa,List.drop_eq_getElem_cons O,asn])
   generalize B.st.list[m]=x at *;obtain⟨vf,J,rfl,V,Z⟩:=hrl w (K.rf w);have HE:Hid (∀W,K w W->cV x (.agg (aD x vf J)) W):=ae λW k=>⟨_,_,rfl,eH _ _ _ _ V k,bo Z k⟩
   have q9:∀i,i<8->wr.cell? ⟨b1,off+m*8+i,none⟩=(aD x vf J)[i]?:=λi hi=>(d wr kr i hi).trans Array.getElem?_toList
   have q0:wr.cell? ⟨b1,off+m*8,none⟩=some (.int .i64 x.kind):=d0 wr kr;have A:=ah.new wr 126 (aD x vf J);have k1':K wr (wr.alloc (.cells (aD x vf J) 126)):=(K.rf wr).al _;obtain⟨Af,cf,rfl⟩:=b6 V;obtain⟨Ae,ce,rfl⟩:=aw Z;clear d d0 V Z hrl eJ H;go_upto_region 13 with (fail);generalize wr.alloc _=YP at *;have I:=U.st k1';have L:=kr.tr k1';clear q9 q0 U;have q8:=A.cell;have y:=ae (aqt s c x _ _ YP I.aq (HE.aa YP L) af G T);obtain⟨Ao,co,rfl⟩:=I.slice;go_wp2_with fail
   refine y.aa.mono ?_;rintro e w4⟨v4,rfl,Y,X⟩;have C:=L.tr X;have hz1:=L.size;have Cq:=ae (aV.low (aV.floor Y hz1) hz1);have Q:=I.st X;have bZ:=(A.av X).cell;obtain⟨A4,c4,rfl⟩:=aw Y.sR.aq;clear y Y I q8 A;by_cases t:oP s c x=[];rotate_left
   ·have hpos:=List.length_pos_iff.2 t;have HF:Hid (R=(oP s c x,((m+1:Nat):Int),0)):=ae (by rw[F.aa,if_neg t]);have hw:IntKind.i64.wrap ((m:Int)+1)=(m:Int)+1:=IntWalk.i64_in _ af;clear t F;generalize oP s c x=bt at *;go_wp2;go_ret3;exact⟨_,Dv,by rw[HF.aa];exact Cq.aa,C⟩
   have HF:Hid (R=((mS c (B.st.list.drop (m+1)) (kK s x) (m+1)).1,((mS c (B.st.list.drop (m+1)) (kK s x) (m+1)).2:Int),0)):=ae (by rw[F.aa,if_pos t]);rw[t];clear F Cq t;by_cases hk:x.kind=1
   ·have HF2:Hid (R=((mS c (B.st.list.drop (m+1)) s (m+1)).1,((mS c (B.st.list.drop (m+1)) s (m+1)).2:Int),0)):=ae (by rw[HF.aa,show kK s x=s from if_pos hk]);have hk2:(x.kind != 1)=false:=FB;clear hk HF;go_wp2;go_roundw
    case rel=>exact⟨m+1,s,af,bJ,af,G,Q,C,HF2⟩
    case measure=>simp[intOf];omega
   have hk2:(x.kind != 1)=true:=sE;have hs1:kK s x=tE s x:=if_neg hk;have kO:=adq s x;have pZ:=ahk (x:=x) G T.1;have u:=ae (ab6 s x _ _ w4 Q.aq (HE.aa w4 C) af G T.1);rw[<- hs1]at u;clear hk hs1 Q;go_wp2_with fail
   refine u.aa.mono ?_;rintro e w5⟨v5,rfl,ko,k5⟩;have lZ:=C.tr k5;have ir:=C.size;have jC:aA (λk=>k<w.heap.size) w.heap.size 246 iu (kK s x) v5 w5:=(ko.less λk hk=>af).low ir;clear u ko bZ;go_wp2;go_roundw
   case rel=>exact⟨m+1,kK s x,af,bJ,af,pZ,jC,lZ,HF⟩
   case measure=>simp[intOf];omega
  ·have aP:¬(m:Int)<B.st.list.length:=af;obtain rfl:m=B.st.list.length:=af;have HF:Hid (R=([],(B.st.list.length:Int),0)):=ae (by rw[H.aa,List.drop_length];rfl);clear H U;go_wp2;go_ret3;exact⟨_,Dv,Wo,kr⟩
def dm(X Z:Nat->Prop)(g gd:Nat)(B:bj)(W:World):Prop:=fP B/\∃p,bA (λk=>X k∨bw p k) p B W/\p.key=(g,gd)/\∀k,Z k->¬bw p k/\k<W.heap.size
section
variable {X X' Z Z':Nat->Prop} {g gd:Nat} {B B':bj} {W W':World}
theorem dm.more(h:dm X Z g gd B W)(k:K W W')(y:∀k,X' k->X k∨(W.heap.size<=k/\k<W'.heap.size))(A:∀k,Z' k->Z k∨(W.heap.size<=k/\k<W'.heap.size)):dm X' Z' g gd B W':=by
 obtain⟨C,p,hb,hg,hz⟩:=h;refine⟨C,p,hb.far (X:=λ_=>False) (ag.aT k _) (λ_ h=>h.elim) (λ_ h=>h.elim) (λj t u=>u.elim (λh=>.inl ((y j h).resolve_right af)) .inr) (λ_ h=>.inr h) (λj t=>?_),hg,λj t=>?_⟩
 ·rcases t with h|h
  ·rcases y j h with h|h
   ·exact bz (hb.low j (.inl h)) k.size
   ·exact h.2
  ·exact bz (hb.low j (.inr h)) k.size
 ·rcases A j t with h|h
  ·exact⟨(hz j h).1,bz (hz j h).2 k.size⟩
  ·exact⟨λu=>by have:=hb.low j (hb.sub j u);omega,h.2⟩
theorem dm.st(h:dm X Z g gd B W)(k:K W W'):dm X Z g gd B W':=h.more k (λ_ h=>.inl h) λ_ h=>.inl h
theorem dm.less(h:dm X Z g gd B W)(t:∀k,X' k->X k)(j:∀k,Z' k->Z k):dm X' Z' g gd B W:=h.more (K.rf W) (λk hk=>.inl (t k hk)) λk hk=>.inl (j k hk)
theorem dm.n{p}(j:∀k,Z k->¬bw p k/\k<W.heap.size)(hg:p.key=(g,gd))(y:fP B')(h:dC (λk=>X k∨bw p k) p B' W W'):dm X Z g gd B' W'/\ag (λk=>¬Z k) W W':=by
 obtain⟨p',u,t,A,B⟩:=h
 refine⟨⟨y,p',u.less (λ_ h=>.inr h) (λ_ h=>h.elim (λh=>.inl (.inl h)) .inr),A.trans hg,λk hk=>⟨λC=>?_,bz (j k hk).2 t.size⟩⟩,t.more λk hk hz=>(j k hz).1 hk⟩
 grind
theorem dm.call{f args r}(h:dm X Z g gd B W)(t:∀p,bA (λk=>X k∨bw p k) p B W->p.key=(g,gd)->Calls prog f args W λe w'=>e=.returned r/\dC (λk=>X k∨bw p k) p B' W w')(j:fP B') :
 Calls prog f args W λe w'=>e=.returned r/\dm X Z g gd B' w'/\ag (λk=>¬Z k) W w':=by
 obtain⟨-,p,hb,hg,hz⟩:=h
 exact (t p hb hg).mono λe w' h=>⟨h.1,dm.n hz hg j h.2⟩
theorem ayg(h:dm X Z g gd B W) c(j:cJ c)(hn:B.calls+1<4611686018427387904) :
 Calls prog 49 #[.pointer (some ⟨g,0,none⟩),.int .i64 c] W λe w'=>e=.returned (.tuple #[bU (wT B c).2.1,.int .i64 (wT B c).2.2])/\dm X Z g gd (wT B c).1 w'/\ag (λk=>¬Z k) W w' :=
 h.call (λp hb e=>kg e▸apo hb h.1.tobD c j) (h.1.begin hn j)
theorem aAq(h:dm X Z g gd B W) c(u:cJ c)(hn:B.calls+1<4611686018427387904)(n:Nat)(j:n<18446744073709551616) f vf(y:fu f vf W)(hfit:∀t∈f,jh t)(A:f.length<=1000000) :
 Calls prog 77 #[.pointer (some ⟨g,0,none⟩),.int .i64 c,.int .u64 (n:Int),vf] W λe w'=>e=.returned (.tuple #[bU (yw B c n f).2.1,.int .i64 (yw B c n f).2.2])/\dm X Z g gd (yw B c n f).1 w'/\ag (λk=>¬Z k) W w' :=
 h.call (λp hb e=>kg e▸arE hb h.1.tobD c u n j f vf y hfit A) (h.1.ask hn pD u j hfit)
theorem avU(h:dm X Z g gd B W) a(C:eu a) j u(y:iU j u W)(A:j.length<=1000000)(t:∀x∈j,mX x) :
 Calls prog 84 #[.pointer (some ⟨g,0,none⟩),bU a,u] W λe w'=>e=.returned (.int .i64 (fo B (iY B.aB a j)).2)/\dm X Z g gd (fo B (iY B.aB a j)).1 w'/\ag (λk=>¬Z k) W w' :=
 h.call (λp hb e=>kg e▸aow hb h.1.tobD a j u y A t) (h.1.Iu t C)
theorem axk(h:dm X Z g gd B W) a(j:eu a) :
 Calls prog 55 #[.pointer (some ⟨g,0,none⟩),bU a] W λe w'=>e=.returned (.int .i64 (fo B (jG B.aB a)).2)/\dm X Z g gd (fo B (jG B.aB a)).1 w'/\ag (λk=>¬Z k) W w' :=
 h.call (λp hb e=>kg e▸aoV hb h.1.tobD a) (h.1.ID j)
theorem axl(h:dm X Z g gd B W) a :
 Calls prog 53 #[.pointer (some ⟨g,0,none⟩),bU a] W λe w'=>e=.returned (.int .i64 (Fy B a))/\K W w':=by
 obtain⟨j,p,hb,hg,-⟩:=h
 obtain rfl:=kg hg
 exact ao1 hb j.tobD a
theorem ay2(h:dm X Z g gd B W) c j :
 Calls prog 50 #[.pointer (some ⟨g,0,none⟩),.int .i64 c,.int .i64 j] W λe w'=>∃v',e=.returned (.tuple #[v',.int .i64 (oW B c j).2.1,.int .i64 (oW B c j).2.2])/\aV W.heap.size W.heap.size 51 cG (oW B c j).1 v' w'/\K W w':=by
 obtain⟨t,p,hb,hg,-⟩:=h
 obtain rfl:=kg hg
 exact aqU hb t.tobD c j
theorem ayh(h:dm X Z g gd B W) :
 Calls prog 58 #[.pointer (some ⟨g,0,none⟩)] W λe w'=>∃vl vp va,e=.returned (.agg (cE B.st vl vp va))/\lE (λk=>k<W.heap.size) B.st vl vp va w'/\K W w':=by
 obtain⟨j,p,hb,hg,-⟩:=h
 obtain rfl:=kg hg
 exact aps hb j.tobD
theorem dm.new{gd vh e q}(h:Yf gd vh B W e W' q)(t:fP B)(u:∀k,X k->k<W.heap.size)(j:∀k,Z k->¬kY gd vh k/\k<W.heap.size):dm X Z q.g gd B W'/\ag (λk=>¬Z k) W W':=by refine⟨⟨t,q,h.br.less (λ_ h=>.inr h) (λk h=>h.imp (u k) id),(by unfold nr.key;rw[h.dd]),λk hk=>⟨λy=>?_,bz (j k hk).2 h.up.size⟩⟩,h.up.more λk hk hz=>(j k hz).1 hk⟩;rcases h.new k y with h|h;all_goals grind
end
theorem bD.open_{me p ai d s}(j:gQ p=true)(hm:fT p me=true)(t:pW p ai=true)(u:ic d s):fP (uY me p ai d s) :=
 ⟨⟨j,hm,t,u,jo.nil,wS,wS,wS,wS,wS,wS⟩,ik.nil⟩
section
variable {X Z:Nat->Prop} {g gd:Nat} {B:bj} {W:World}
theorem axm(h:dm X Z g gd B W)(y:kN B)(u:B.told.length+16<=1000000) j b t(hb:sl b t W)(A:b.length<=1000000000) :
 Calls prog 57 #[.pointer (some ⟨g,0,none⟩),.int .i64 j,t] W λe w'=>e=.returned (.int .i64 (il B j b).2)/\dm X Z g gd (il B j b).1 w'/\ag (λk=>¬Z k) W w' :=
 h.call (λp C e=>kg e▸ao8 C h.1.tobD y u j b t hb A) (Uc y h.1 j b u).1
end
def rE(Z:Nat->Prop)(gd:Nat)(d:oK)(W:World):Prop:=∃vh,Jm gd vh d W/\∀k,Z k->¬kY gd vh k/\k<W.heap.size
theorem ic.YF{d s}(h:ic d s):FW (d.eT.map bM):=FW.all (by have:=h.cnt;simp;omega) (by
 intro b hb;obtain⟨r,j,rfl⟩:=List.mem_map.1 hb;have:=(h.eT r j).2.2;omega)
section
variable {X Z:Nat->Prop} {g gd:Nat} {B:bj} {W W':World}
theorem rE.st{d}(h:rE Z gd d W)(k:K W W'):rE Z gd d W':=h.imp λ_ h=>⟨h.1.st k,λj t=>⟨(h.2 j t).1,bz (h.2 j t).2 k.size⟩⟩
theorem dm.dk(h:dm X Z g gd B W):rE Z gd B.dk W:=by obtain⟨-,p,hb,hg,hz⟩:=h;obtain rfl:p.gd=gd:=congrArg Prod.snd hg;exact⟨p.vd,hb.lg.dk,λk hk=>⟨λj=>(hz k hk).1 (.inr (.inr (.inr (.inr (.inr j))))),(hz k hk).2⟩⟩
theorem ayi{d}(h:rE Z gd d W) keep(hk:cJ keep) :
 Calls prog 45 #[.pointer (some ⟨gd,0,none⟩),.int .i64 keep] W λe w'=>e=.returned (.tuple #[])/\rE Z gd d w'/\ag (λk=>¬Z k) W w':=by
 obtain⟨vh,y,hz⟩:=h
 apply bF (apk gd vh (iW d) d.room keep W y hk)
 rintro w'⟨t,j⟩
 exact⟨rfl,⟨vh,t,λk hk=>⟨(hz k hk).1,bz (hz k hk).2 j.up.size⟩⟩,j.up.more λk hk u=>(hz k u).1 hk⟩
theorem ay3{d s}(h:rE Z gd d W)(C:ic d s)(hA:FW (d.eT.map bM))(L:s.life+1<18446744073709551616) p ai me j t(F:Fx (λk=>¬Z k) (λW=>aq cR p j W) W)(H:Fx (λk=>¬Z k) (λW=>aq cR ai t W) W)
 (D:gQ p=true) (hm:fT p me=true) (E:pW p ai=true) (A:iO (dF (cZ s))<=d.room) (M:∀k,X k->Z k) :
 Calls prog 86 #[.int .i64 me,j,t,.pointer (some ⟨gd,0,none⟩)] W λe w'=>∃g,e=.returned (.tuple #[.pointer (some ⟨g,0,none⟩),.int .i64 0])/\dm X Z g gd (uY me p ai ⟨dF (cZ s),d.room⟩ (cZ s)) w'/\ag (λk=>¬Z k) W w'/\W.heap.size<=g:=by
 obtain⟨vh,I,hz⟩:=h
 have B:∀k,kY gd vh k->¬Z k:=λk hk G=>(hz k G).1 hk
 refine (abZ gd vh d s p ai me j t W I C hA L (F.less B) (H.less B) D hm E).mono ?_
 intro e w' hp
 unfold DC at hp
 rw[if_pos A]at hp
 obtain⟨q,y⟩:=hp
 obtain⟨J,u⟩:=dm.new (X:=X) y (bD.open_ D hm E (C.life A)) (λk hk=>(hz k (M k hk)).2) hz
 exact⟨q.g,y.ret,J,u,y.g⟩
end
def xO:dW Value where
 size:=1
 rel:=λv cs _=>cs=[v]/\v.oneCell'=true
 len:=by rintro _ _ _⟨rfl,_⟩;rfl
 one:=by rintro _ _ _⟨rfl,h⟩ u j;simp at j;exact j▸h
 st:=λh _=>h
structure mf where
 gw:Nat
 gb:Nat
 vp:Value
 vh:Value
 vn:Value
 vd:Value
 vc:Value
 vg:Value
 vs:List Value
 ds:List Nat
 ak:List (Int×Value)
structure OvC(H:mf)(own:Nat->Nat)(O:bH)(W:World):Prop where
 blk:ah W H.gw 83 #[H.vp,H.vh,H.vn,H.vd,.map (some H.gb),H.vc,H.vg]
 map:ei encI W H.gb H.ak
 out:∀k,fT O.par k=false->di H.ak k=none
 cur:aA (λ_=>True) 0 3 cR O.cur H.vc W
 got:aA (λ_=>True) 0 59 xO H.vs H.vg W
 own:own H.gw=2/\own H.gb=2/\(∀k,H.vc.ownBlock=some k->own k=2)/\∀k,H.vg.ownBlock=some k->own k=2
 len:H.vs.length=O.got.length
 kn:(H.ak.map (·.1)).Nodup
def OvB(H:mf)(own:Nat->Nat)(W:World)(n:Nat)(x:JV):Prop:=∃gd,H.ds[n]?=some gd /\
 (∀B,x.up=some B->∃g,di H.ak (n:Int)=some (.pointer (some ⟨g,0,none⟩))/\dm (λk=>own k≠0/\own k≠2*n+4) (λk=>own k≠2*n+4/\k<W.heap.size) g gd B W) /\
 (x.up=none->di H.ak (n:Int)=none/\rE (λk=>own k≠2*n+4/\k<W.heap.size) gd x.dk W)
structure bu(H:mf)(own:Nat->Nat)(O:bH)(W:World)(S:Nat->Prop):Prop where
 lo:∀k,own k≠0->k<W.heap.size
 fx:Fx (λk=>own k≠0) (λW=>aq cR O.par H.vp W/\aq cR O.ai H.vh W/\aq xO (H.ds.map λg=>.pointer (some ⟨g,0,none⟩)) H.vd W) W
 eW:S 2->OvC H own O W
 dX:S 3->∃gn,H.vn=.pointer (some ⟨gn,0,none⟩)/\sy (λk=>own k≠0) (λk=>own k=3) gn O.dX W
 brk:∀n x,S (2*n+4)->O.gF[n]?=some x->OvB H own W n x
 got:∀c l,S (2*c+5)->O.got[c]?=some l->∃v,H.vs[c]?=some v/\aA (λk=>own k≠0) 0 37 (zQ cG) l v W/\∀k,v.ownBlock=some k->own k=2*c+5
section
variable {X X' Z Z' Y M M' C C' S S':Nat->Prop} {g gd gn:Nat} {B:bj} {W W':World} {H:mf} {own bN:Nat->Nat} {O:bH} {d:oK} {L:List tg}
theorem dm.to(h:dm X Z g gd B W)(u:ag Y W W')(j:∀k,Y k->X k/\Z k)(A:∀k,X' k->X k∨(W.heap.size<=k/\k<W'.heap.size))(C:∀k,Z' k->Z k∨(W.heap.size<=k/\k<W'.heap.size)):dm X' Z' g gd B W':=by obtain⟨t,p,hb,hg,hz⟩:=h;have E:=hb.low;have D:=u.size;refine⟨t,p,hb.far u (λk hk=>.inl (j k hk).1) (λk hk=>(hz k (j k hk).2).1) (λk hk y=>y.imp_left λh=>(A k h).resolve_right af) (λ_ h=>.inr h) (λk hk=>?_),hg,λk hk=>?_⟩;all_goals grind
theorem rE.to(h:rE Z gd d W)(u:ag Y W W')(t:∀k,Y k->Z k)(A:∀k,Z' k->Z k∨(W.heap.size<=k/\k<W'.heap.size)):rE Z' gd d W':=by
 obtain⟨vh,j,hz⟩:=h
 have C:=j.lt
 have B:=u.size
 refine⟨vh,j.aX u λk hk y=>(hz k (t k y)).1 hk,λk hk=>?_⟩
 grind
theorem bu.to(h:bu H own O W S)(u:ag X W W')(t:∀k,X k->own k≠0/\¬S' (own k))(D:∀i,S' i->S i)(ho:∀k,k<W.heap.size->bN k=own k)(hn:∀k,W.heap.size<=k->bN k≠0->k<W'.heap.size/\¬S' (bN k)):bu H bN O W' S':=by
 have hs:=u.size;have hm:∀k,k<W.heap.size->bN k≠0->own k≠0:=λk hk e=>ho k hk▸e
 have E:∀j,S' j->j≠0->∀k,bN k=j↔own k=j:=λj hj h0 k=>by
  by_cases hk:k<W.heap.size
  ·grind
  ·exact⟨λe=>absurd hj (e▸(hn k af af).2),λe=>by have:=h.lo k (by omega);omega⟩
 have T:∀k,bN k≠0->own k≠0∨(W.heap.size<=k/\k<W'.heap.size):=λk e=>by
  grind
 refine⟨λk hk=>aG,h.fx.to u (λk hk=>(t k hk).1) hm,λy=>?_,λG=>?_,λn x hb hn'=>?_,λc l J hl=>?_⟩
 ·obtain⟨Z,R,a3,a4,a5,⟨Q,L,N,M⟩,a7,U⟩:=h.eW (D _ y);have no:∀k,own k=2->¬X k:=λk e hk=>(t k hk).2 (e▸y)
  have A:=E 2 y ay;exact⟨Z.aX u (no _ Q),R.aX u (no _ L),a3,a4.to u (λ_ _=>trivial) (λk hk=>no k (N k hk)) (λ_ _ _=>.inl trivial),a5.to u (λ_ _=>trivial) (λk hk=>no k (M k hk)) (λ_ _ _=>.inl trivial),⟨(A _).2 Q,(A _).2 L,λk hk=>(A k).2 (N k hk),λk hk=>(A k).2 (M k hk)⟩,a7,U⟩
 ·obtain⟨gn,e,Y⟩:=h.dX (D _ G);have e3:=E 3 G ay;rw[show (λk=>bN k=3)=λk=>own k=3 from funext λk=>propext (e3 k)];exact⟨gn,e,Y.to u (λk hk=>(t k hk).1) (λk e hk=>(t k hk).2 (e▸G)) hm λk e=>aG⟩
 ·obtain⟨gd,e,F,y⟩:=h.brk n x (D _ hb) hn';have e4:=E _ hb af;have hz:∀k,bN k≠2*n+4/\k<W'.heap.size->(own k≠2*n+4/\k<W.heap.size)∨(W.heap.size<=k/\k<W'.heap.size):=λk hk=>by
   grind
  have I:∀k,X k->own k≠2*n+4/\k<W.heap.size:=λk hk=>⟨λe=>(t k hk).2 (e▸hb),h.lo k (t k hk).1⟩
  refine⟨gd,e,λB C=>?_,λC=>⟨(y C).1,(y C).2.to u I hz⟩⟩;obtain⟨g,A,hL⟩:=F B C;exact⟨g,A,hL.to u (λk hk=>⟨⟨(t k hk).1,(I k hk).1⟩,I k hk⟩) (λk hk=>(T k hk.1).imp_left λh=>⟨h,λe=>hk.2 ((e4 k).2 e)⟩) hz⟩
 ·obtain⟨v,e,F,y⟩:=h.got c l (D _ J) hl;have V:=E _ J af;exact⟨v,e,F.to u (λk hk=>(t k hk).1) (λk e hk=>(t k hk).2 (y k e▸J)) (λk hk e=>.inl (hm k hk e)),λk e=>(V k).2 (y k e)⟩
theorem bu.st(h:bu H own O W S)(k:K W W'):bu H own O W' S :=
 h.to (ag.aT k λ_=>False) (λ_ h=>h.elim) (λ_ h=>h) (λ_ _=>rfl) λj t e=>by have:=h.lo j e;omega
def iR(own:Nat->Nat)(i:Nat)(W W':World)(k:Nat):Nat:=if W.heap.size<=k then (if k<W'.heap.size then i else 0)else own k
theorem aix(h:bu H own O W S){i}(y:i≠0)(u:ag X W W')(t:∀k,X k->own k=i):bu H (iR own i W W') O W' (λj=>S j/\j≠i) :=
 h.to u (λk hk=>⟨t k hk▸y,λe=>e.2 (t k hk)⟩) (λ_ h=>h.1) (λk hk=>FC) λk hk e=>by
  unfold iR at *;rw[if_pos hk]at *;split
  ·next h2=>rw[if_pos h2]at e;exact⟨h2,λh=>h.2 rfl⟩
  ·next h2=>rw[if_neg h2]at e;exact absurd rfl e
end
def dJ(i:Nat):Prop:=2<=i
theorem p2:dJ 2:=aC 2
theorem pB n:dJ (2*n+4):=by grind [dJ]
def dh(H:mf)(own:Nat->Nat)(u:bH)(w w':World):Prop :=
 ∃t j,bu t j u w' dJ/\t.gw=H.gw/\ag (λk=>2<=own k) w w'/\∀k,k<w.heap.size->j k=own k
section
variable {X S:Nat->Prop} {W W' W2:World} {H H1:mf} {own F6:Nat->Nat} {O O':bH} {n g gd gn:Nat} {B B':bj} {x:JV} {L:List tg}
theorem bu.now(h:bu H own O W dJ)(k:K W W'):dh H own O W W':=⟨H,own,h.st k,rfl,ag.aT k _,λ_ _=>rfl⟩
theorem dh.tr(u:ag (λk=>2<=own k) W W')(hg:H1.gw=H.gw)(j:∀k,k<W.heap.size->F6 k=own k)(h:dh H1 F6 O' W' W2):dh H own O' W W2:=by obtain⟨D,B,t,y,C,A⟩:=h;have E:=u.size;exact⟨D,B,t,y.trans hg,u.gg C λk hk e=>j k hk▸e,λk hk=>(A k af).trans (j k hk)⟩
theorem dh.k(k:K W W')(h:dh H own O' W' W2):dh H own O' W W2:=dh.tr (ag.aT k _) rfl (λ_ _=>rfl) h
theorem dh.of(u:ag X W W')(A:∀k,X k->k<W.heap.size->2<=own k){i}(h:bu H1 (iR own i W W') O' W' dJ)(hg:H1.gw=H.gw):dh H own O' W W' :=
 ⟨H1,_,h,hg,⟨u.os,u.tape,u.output,u.size,λk j y=>u.block k j λt=>y (A k t j)⟩,λk hk=>FC⟩
theorem bu.EG(h:bu H own O W dJ)(k:K W W'):bu H (iR own 1 W W') O W' dJ:=by
 refine h.to (ag.aT k λ_=>False) (λ_ h=>h.elim) (λ_ h=>h) (λk hk=>by grind [iR]) λj t e=>?_
 unfold iR at *
 grind [dJ,iR]
theorem dh.EG(k:K W W'){b y}(hb:W.heap.size<=b)(j:b<W'.heap.size)(h:dh H (iR own 1 W W') O' W' W2)(u:ag (λk=>k=b) W2 y):dh H own O' W y:=by
 obtain⟨F,D,h1,C,E,t⟩:=h;have A:∀k,k<W.heap.size->iR own 1 W W' k=own k:=λk hk=>by grind [iR]
 have hk:=k.size;have B:=t b j;unfold iR at B;rw[if_pos hb,if_pos j]at B;refine⟨F,D,h1.to u (λk hk=>by grind [dJ]) (λ_ h=>h) (λ_ _=>rfl) λk hk e=>Xe,C,?_,λk hk=>(t k af).trans (A k hk)⟩;exact ((ag.aT k _).gg E λk hk e=>A k hk▸e).gg u λk hk e=>af
theorem bu.up(h:bu H own O W S)(u:S (2*n+4))(A:O.gF.length=O.par.length)(j:cX O n=some B) :
 ∃gd g,H.ds[n]?=some gd/\di H.ak (n:Int)=some (.pointer (some ⟨g,0,none⟩))/\dm (λk=>own k≠0/\own k≠2*n+4) (λk=>own k≠2*n+4/\k<W.heap.size) g gd B W:=by
 unfold cX at j
 split at j
 ·obtain⟨x,t,y⟩:=Option.bind_eq_some_iff.1 j;rw[Int.toNat_natCast]at t;obtain⟨gd,e,C,-⟩:=h.brk n x u t;grind
 ·cases j
theorem bu.down(h:bu H own O W S)(t:S 2)(u:∀n,S (2*n+4))(A:O.gF.length=O.par.length){m}(j:cX O m=none):di H.ak m=none:=by
 unfold cX at j;split at j
 ·next hi =>
  unfold ku fT at hi;simp only[dE,decide_eq_true_eq]at hi;obtain⟨n,rfl⟩:=Int.eq_ofNat_of_zero_le hi.1;rw[Int.toNat_natCast,List.getElem?_eq_getElem (show n<O.gF.length by omega)]at j;obtain⟨gd,e,-,y⟩:=h.brk n O.gF[n] (u n) (List.getElem?_eq_getElem af);grind
 ·next hi=>exact (h.eW t).out m (by grind [ku])
theorem Pk{i k}(j:∀k,own k≠0->k<W.heap.size)(hk:iR own i W W' k≠i/\(k<W'.heap.size∨iR own i W W' k≠0)):own k≠i/\k<W.heap.size/\iR own i W W' k=own k:=by
 grind [iR]
theorem bu.akz(h:bu H own O W S)(hn:n<O.gF.length)(u:ag (λk=>¬(own k≠2*n+4/\k<W.heap.size)) W W')(R:OvB H (iR own (2*n+4) W W') W' n x):bu H (iR own (2*n+4) W W') (ot O n x) W' S:=by
 have C:ag (λk=>own k=2*n+4) W W':=⟨u.os,u.tape,u.output,u.size,λk B A=>u.block k B λt=>t ⟨A,B⟩⟩;have j:=aix h af C λ_ h=>h
 refine⟨j.lo,j.fx,λA=>?_,λL=>j.dX ⟨L,af⟩,λm y hm t=>?_,λc l D=>j.got c l ⟨D,af⟩⟩
 ·obtain⟨J,I,F,N,G,E,M,Q⟩:=j.eW ⟨A,af⟩;exact⟨J,I,F,N,G,E,M,Q⟩
 ·simp only[ot,Int.toNat_natCast,List.getElem?_set]at t;by_cases e:n=m
  ·grind
  ·rw[if_neg e]at t;exact j.brk m y ⟨hm,af⟩ t
theorem bu.put(h:bu H own O W S)(hn:n<O.gF.length)(t:H.ds[n]?=some gd)(hg:di H.ak (n:Int)=some (.pointer (some ⟨g,0,none⟩)))
 (j:dm (λk=>own k≠0/\own k≠2*n+4) (λk=>own k≠2*n+4/\k<W.heap.size) g gd B' W') (u:ag (λk=>¬(own k≠2*n+4/\k<W.heap.size)) W W'):bu H (iR own (2*n+4) W W') (sN O n B') W' S:=by
 refine h.akz hn u ⟨gd,t,λB e=>?_,λe=>Dr⟩
 injection e with e
 subst e
 exact⟨g,hg,j.less (λk hk=>by have:=Pk h.lo ⟨hk.2,.inr hk.1⟩;exact⟨this.2.2▸hk.1,this.1⟩) λk hk=>aiy⟩
theorem bu.akA{d}(h:bu H own O W S)(hn:n<O.gF.length)(y:H.ds[n]?=some gd)(hg:di H.ak (n:Int)=none)
 (t:rE (λk=>own k≠2*n+4/\k<W.heap.size) gd d W') (u:ag (λk=>¬(own k≠2*n+4/\k<W.heap.size)) W W'):bu H (iR own (2*n+4) W W') (ot O n ⟨none,d⟩) W' S :=
 h.akz hn u ⟨gd,y,λB e=>Dr,λ_=>⟨hg,t.imp λvh j=>⟨j.1,λk hk=>j.2 k aiy⟩⟩⟩
theorem bu.less{t}(h:bu H own O W S)(j:∀i,t i->S i):bu H own O W t :=
 ⟨h.lo,h.fx,λe=>h.eW (j _ e),λe=>h.dX (j _ e),λn x e=>h.brk n x (j _ e),λc l e=>h.got c l (j _ e)⟩
theorem bu.map{ak}(h:bu H own O W λj=>S j/\j≠2*n+4)(V:S 2)(hn:n<O.gF.length)(hl:O.gF.length=O.par.length)(hm:ei encI W' H.gb ak)(hk:(ak.map (·.1)).Nodup)(E:∀m,m≠(n:Int)->di ak m=di H.ak m)(u:ag (λk=>k=H.gb) W W')
 (C:OvB { H with ak:=ak } own W' n x):bu { H with ak:=ak } own (ot O n x) W' S:=by
 obtain⟨F,L,a3,G,J,⟨T,M,R,N⟩,a7,a8⟩:=h.eW ⟨V,af⟩
 have A:bu H own O W' λj=>(S j/\j≠2*n+4)/\j≠2:=h.to u (λk e=>aG) (λ_ h=>h.1) (λ_ _=>rfl) λk hk e=>Xf
 have Z:∀t cs k,ah W k t cs->k≠H.gb:=λt cs k hb e=>(e▸L).cells hb
 refine⟨A.lo,A.fx,λ_=>⟨F.aX u (Z _ _ _ F),hm,λk e=>?_,G.to u (λ_ _=>trivial) (λk hk e=>?_) (λ_ _ _=>.inl trivial),J.to u (λ_ _=>trivial) (λk hk e=>?_) (λ_ _ _=>.inl trivial),⟨T,M,R,N⟩,a7,hk⟩,λU=>A.dX ⟨⟨U,af⟩,af⟩,λm y hm D=>?_,λc l X=>A.got c l ⟨⟨X,af⟩,af⟩⟩
 ·refine (E k λe'=>?_).trans (a3 k e);subst e';have e:fT O.par (n:Int)=false:=e;unfold fT at e;grind
 ·obtain⟨_,_,_,hb⟩:=G.own hk;grind
 ·obtain⟨_,_,_,hb⟩:=J.own hk;grind
 ·simp only[ot,Int.toNat_natCast,List.getElem?_set]at D;by_cases e:n=m
  ·grind
  ·rw[if_neg e]at D;obtain⟨gd,Q,e2,I⟩:=A.brk m y ⟨⟨hm,af⟩,af⟩ D;have Y:=E (m:Int) af;refine⟨gd,Q,λB C=>?_,λC=>⟨Y.trans (I C).1,(I C).2⟩⟩;grind
theorem bu.akB(h:bu H own O W dJ)(hn:n<O.gF.length)(j:H.ds[n]?=some gd)(hg:di H.ak (n:Int)=some (.pointer (some ⟨g,0,none⟩)))
 (t:dm (λk=>own k≠0/\own k≠2*n+4) (λk=>own k≠2*n+4/\k<W.heap.size) g gd B' W') (u:ag (λk=>¬(own k≠2*n+4/\k<W.heap.size)) W W'):dh H own (sN O n B') W W' :=
 dh.of u (λk hk _=>af) (i:=2*n+4) (h.put hn j hg t u) rfl
theorem bu.IU(h:bu H own O W S)(I:H.vn=.pointer (some ⟨gn,0,none⟩))(C:sy (λk=>own k≠0) (λk=>own k=3) gn L W')(u:ag (λk=>own k=3) W W'):bu H own { O with dX:=L } W' S:=by
 have t:bu H own O W' λj=>S j/\j≠3:=h.to u (λk hk=>af) (λ_ h=>h.1) (λ_ _=>rfl) λk hk e=>Xf
 exact⟨t.lo,t.fx,λy=>by
  obtain⟨G,F,D,M,E,A,J,N⟩:=t.eW ⟨y,af⟩;exact⟨G,F,D,M,E,A,J,N⟩,λ_=>⟨gn,I,C⟩,λm x hm=>t.brk m x ⟨hm,af⟩,λc l B=>t.got c l ⟨B,af⟩⟩
theorem bu.ay4(h:bu H own O W dJ)(t:H.vn=.pointer (some ⟨gn,0,none⟩))(j:sy (λk=>own k≠0) (λk=>own k=3) gn L W')(u:ag (λk=>own k=3) W W'):dh H own { O with dX:=L } W W' :=
 ⟨H,own,h.IU t j u,rfl,u.more λk hk=>af,λ_ _=>rfl⟩
end
