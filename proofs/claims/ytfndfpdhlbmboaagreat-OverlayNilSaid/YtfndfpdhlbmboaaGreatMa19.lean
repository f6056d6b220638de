/-
  The walk of vote.Ends (layer 18). Conditions: lists of at most a million.
-/
import Derived.Test.YtfndfpdhlbmboaaGreatMa18
import Derived.Test.YtfndfpdhlbmboaaGreatMz
set_option maxRecDepth 100000
set_option linter.constructorNameAsVariable false
set_option maxHeartbeats 16000000
set_option linter.unusedVariables false
set_option linter.unusedSimpArgs false
namespace Go.Proofs.YtfndfpdhlbmboaaGreat
open Go Go.RowKit _root_.Go.Proofs.Tryz
theorem avD s op:∀(l:List kV) (o:List aR),o.length<=16->(l.foldl (kI s op) o).length<=16:=by
 intro l
 induction l with
 | nil=>intro o h;exact h
 | cons x l j =>
  intro o h;refine j _ ?_;unfold kI;split
  ·exact h
  ·split
   ·exact h
   ·simp;omega
theorem atK s op:∀(l:List kV) (o:List aR),16<=o.length->l.foldl (kI s op) o=o:=by
 intro l
 induction l with
 | nil=>intro o h;rfl
 | cons x l t =>
  intro o h;have j:kI s op o x=o:=by unfold kI;rw[if_pos h]
  rw[List.foldl_cons,j];exact t o h
theorem arZ s op k vl vp G M vk w(hs:nh s (.agg (cE s vl vp G)) w)(Z:aq aU op M w)(hk:lF k vk w)
 (jn:s.list.length<=1000000/\s.prom.length<=1000000) (hlo:op.length<=1000000) (hv:k.cK.length<=1000000) :
 Calls prog 165 #[.agg (cE s vl vp G),M,vk] w λe w'=>∃v',e=.returned v'/\aA (λk=>k<w.heap.size) w.heap.size 26 b5 (uT s op k) v' w'/\K w w':=by
 have L:=ae λW (k:K w W)=>Ll hs k
 have CH:=ae λW (k:K w W) a=>Dg s a (.agg (cE s vl vp G)) W (L.aa W k) jn.1
 have CP:=ae λW (k:K w W) a=>J5 s a (.agg (cE s vl vp G)) W (L.aa W k) jn.2
 have CO:=ae λW (k:K w W) a=>abI op a M W (bo Z k) hlo
 have HE:Hid (uT s op k=k.cK.foldl (kI s op) []):=ae rfl
 have vI:=ae λj=>avD s op (k.cK.take j) [] aj
 have XL:=ae λj (h:16<=((k.cK.take j).foldl (kI s op) []).length)=>atK s op (k.cK.drop j) _ h
 obtain⟨Je,Jf,ZH,e,h1,h2,h3⟩:=hs
 simp at e
 obtain⟨rfl,rfl,rfl⟩:=e
 obtain⟨Al,cl,rfl⟩:=aw h1
 obtain⟨Ap,cp,rfl⟩:=aw h2
 obtain⟨Ab,cb,rfl⟩:=aw h3
 obtain⟨Ao,co,rfl⟩:=aw Z
 obtain⟨v1,v2,v3,v4,v5,v6,rfl,g1,g2,g3,g4,g5,g6⟩:=hk
 obtain⟨A1,c1,rfl,hl,-⟩:=g1
 obtain⟨A2,c2,rfl⟩:=aw g2
 obtain⟨A3,c3,rfl⟩:=aw g3
 obtain⟨A4,c4,rfl⟩:=aw g4
 obtain⟨A5,c5,rfl⟩:=aw g5
 obtain⟨A6,c6,rfl⟩:=aw g6
 generalize uT s op k=R at *
 generalize GQ:cE s (.slice Al s.list.length cl) (.slice Ap s.prom.length cp) (.slice Ab s.ab.length cb)=F at *
 generalize ZI:km k (.slice A1 k.cK.length c1) (.slice A2 k.asks.length c2) (.slice A3 k.entries.length c3) (.slice A4 k.fc.length c4) (.slice A5 k.dN.length c5) (.slice A6 k.ends.length c6)=ma at *
 have B:=K.lq w (.cells F 46) (.cells ma 156)
 have hb:=(ah.new w 46 F).alloc (.cells ma 156)
 have D:=ah.new (w.alloc (.cells F 46)) 156 ma
 have hz:(w.alloc (.cells F 46)).heap.size=w.heap.size+1:=aj
 rw[hz]at D
 subst GQ ZI
 clear h1 h2 h3 Z g2 g3 g4 g5 g6 L hz
 go_enter func165,ntmps165
 go_wp2
 go_step3
 generalize World.alloc (World.alloc w _) _=A at *
 generalize U:w.heap.size=lo at hb D⊢
 have lG:=ae U
 have hz1:lo<=A.heap.size:=by rw[<- U];exact B.size
 clear U
 have Y:=K.rf A
 have qb:=hb.cells
 have qc:=D.cells A Y
 have js:=aA.nil (λk=>k<lo) A.heap.size 26 b5 A
 clear hb D
 go_wp2_with fail
 go_step3
 go_wp2_with fail
 go_loopw [7,9,13] (fun o _ i W=>∃j:Nat,j<=k.cK.length/\i=.int .i64 j/\aA (fun k=>k<lo) A.heap.size 26 b5 ((k.cK.take j).foldl (kI s op) []) o W/\K A W) (fun _ _ i _=>k.cK.length-(intOf i).toNat)
 case atStart=>exact⟨0,af,rfl,js,Y⟩
 case round =>
  clear js Y;obtain⟨j,hj,rfl,C,kr⟩:=hrel;have hpl:=vI.aa j;by_cases hlt:j<k.cK.length
  ·have aP:(j:Int)<k.cK.length:=af;obtain⟨b1,o1,cs1,rfl,eJ,hr1,d0,dd⟩:=ed hl j hlt ay;have HF:=ae (fold_succ (kI s op) k.cK [] j hlt);have Q:=ae (XL.aa j);have GS:=ae (show k.cK.foldl (kI s op) []=(k.cK.drop j).foldl (kI s op) ((k.cK.take j).foldl (kI s op) []) by rw[<- List.foldl_append,List.take_append_drop]);generalize k.cK[j]=x at *;generalize (k.cK.take j).foldl (kI s op) []=P at *;obtain⟨y,gL⟩:∃y,Hid (y=(k.cK.take (j+1)).foldl (kI s op) []):=⟨_,ae rfl⟩;replace HF:Hid (y=kI s op P x):=ae (gL.aa.trans HF.aa);obtain rfl:=hr1 w (K.rf w);have oN:=B.tr kr;obtain⟨AZ,zb,rfl⟩:=C.slice;have q9:∀i,i<4->wr.cell? ⟨b1,o1+j*4+i,none⟩=(gJ x)[i]?:=λi hi=>(dd wr oN i hi).trans Array.getElem?_toList
   have q0:wr.cell? ⟨b1,o1+j*4,none⟩=some (.int .i64 x.id.1):=d0 wr oN;have H:=ah.new wr 225 (gJ x);have I:=H.aS;clear dd d0 eJ hr1;go_upto_region 5 with (fail);have E:=C.st I;have cH:=kr.tr I;generalize wr.alloc _=w3 at *;clear q9 q0 C I kr oN;by_cases T:16<=P.length
   ·have FY:(16:Int)<=(P.length:Int):=af;have J:Hid (R=P):=ae (by rw[HE.aa,GS.aa,Q.aa T]);have X:=B.tr cH;clear T HF gL Q GS hpl;go_wp2;rw[gq];go_ret;exact⟨_,rfl,by rw[J.aa,lG.aa];exact E.low hz1,X⟩
   have FY:¬(16:Int)<=(P.length:Int):=af;have q8:=H.cell;clear T Q GS;have C3:=ae (E3 P x.id _ w3 E.aq af);go_wp2_with fail
   refine C3.aa.mono ?_;rintro e w4⟨rfl,t⟩;have gK:=cH.tr t;have cB:=E.st t;have bZ:=H.av t;clear E t q8 C3;have q8:=bZ.cell;cases hb0:dG P x.id;rotate_left
   ·have HP:Hid (y=P):=ae (by rw[HF.aa];unfold kI;rw[if_neg (by omega),if_pos (by simp[hb0])]);clear q8 hb0;exact K8
   go_wp2_with fail
   refine (CH.aa w4 (B.tr gK) x.id).mono ?_;rintro e w5⟨rfl,t⟩;have lZ:=gK.tr t;have cC:=cB.st t;have dR:=bZ.av t;clear cB t q8;have q8:=dR.cell;cases aN:bT s.list x.id;rotate_left
   ·have HP:Hid (y=P):=ae (by rw[HF.aa];unfold kI;rw[if_neg (by omega),if_pos (by simp[hb0,aN])]);exact ahs
   go_wp2_with fail
   refine (CP.aa w5 (B.tr lZ) x.id).mono ?_;rintro e w6⟨rfl,t⟩;have V:=lZ.tr t;have O:=cC.st t;have iI:=dR.av t;clear cC t q8;have q8:=iI.cell;cases hb2:bT s.prom x.id;rotate_left
   ·have HP:Hid (y=P):=ae (by rw[HF.aa];unfold kI;rw[if_neg (by omega),if_pos (by simp[hb0,aN,hb2])]);clear q8 hb0 aN hb2;go_wp2;go_roundw
    case rel=>exact⟨j+1,af,bJ,by rw[<- gL.aa,HP.aa];exact O,V⟩
    case measure=>simp[intOf];omega
   go_wp2_with fail
   refine (CO.aa w6 (B.tr V) x.id).mono ?_;rintro e w7⟨rfl,t⟩;have oF:=V.tr t;have jC:=O.st t;have oA:=iI.av t;clear O t q8;have q8:=oA.cell;cases bG:bT op x.id;rotate_left
   ·have HP:Hid (y=P):=ae awO;clear q8 hb0 aN hb2 bG;go_wp2;go_roundw
    case rel=>exact⟨j+1,af,bJ,by rw[<- gL.aa,HP.aa];exact jC,oF⟩
    case measure=>simp[intOf];omega
   have HP:Hid (y=P++[x.id]):=ae awP;clear hb0 aN hb2 bG HF;have hr:=ew.new (S:=b5) (e:=26) (x:=x.id) (v:=.agg (df x.id)) (w:=w7) (N:=λk=>k<lo∨(Value.slice AZ P.length zb).ownBlock=some k) (λW u=>rfl) 0 (eV _);have kA:=K.new w7 (.cells (df x.id) 26);have ij:=jC.st kA;have pz:=oF.tr kA;have qv:=pz.size;clear jC;go_wp2_with (at_builtin;refine jt rfl _ _ 44 rfl _ 3 24 vX rfl rfl ij _ rfl x.id ?p1 ?p2 ?p3 ?_)
   case p1=>exact hr
   case p2=>omega
   case p3=>exact qv
   exact Ws
  ·have aP:¬(j:Int)<k.cK.length:=af;have J:Hid (R=(k.cK.take j).foldl (kI s op) []):=ae Wt;have X:=B.tr kr;generalize (k.cK.take j).foldl (kI s op) []=P at *;obtain⟨AZ,zb,rfl⟩:=C.slice;go_wp2;go_ret;exact⟨_,rfl,by rw[J.aa,lG.aa];exact C.low hz1,X⟩
theorem ar0 l v q(f:Nat) cs w(h:aq nL l v w)(Q:l.length<=1000000)(S:∀args W,(callFunc f args).run prog W=.ok (.enter f args) W)
 (F:∀W,K w W->∀x∈l,Calls prog f (#[.agg (gJ x)]++cs) W λe W'=>e=.returned (.bool (q x))/\K W W') :
 Calls prog 251 #[v,.func (.func f) #[] cs] w λe w'=>∃i:Int,e=.returned (.int .i64 i)/\K w w'/\decide (0<=i)=l.any q:=by
 have E:=K.rf w
 obtain⟨A,c,rfl,h,-⟩:=h
 have O:=ae F
 clear F
 go_enter func251,ntmps251
 go_wp2_with fail
 go_loopw [5,8] (fun _ i wr=>∃k:Nat,k<=l.length/\i=.int .i64 (k:Int)/\Hid ((l.take k).any q=false)/\K w wr) (fun _ i _=>l.length-(intOf i).toNat)
 case atStart=>exact⟨0,af,rfl,ae aj,E⟩
 case round =>
  clear E;obtain⟨k,hk,rfl,hall,kr⟩:=hrel;by_cases y:k<l.length
  ·have fA:(k:Int)<(l.length:Int):=af;obtain⟨C,G,R,rfl,I,D,u,d⟩:=ed h k y ay;have HB:=ae (xP q l k y);have HA:=ae (xQ q l (k+1));have hm:=bS y;generalize l[k]=t at *;obtain rfl:=D w (K.rf w);have u:∀W,K w W->W.cell? ⟨C,G+k*4,none⟩=some (.int .i64 t.id.1):=u;have d:∀W,K w W->∀i,i<4->W.cell? ⟨C,G+k*4+i,none⟩=(gJ t)[i]?:=λW j N=>λM=>(d W j N M).trans Array.getElem?_toList
   have B:=ae (O.aa wr kr t hm);have J:=u wr kr;have L:=d wr kr;clear D I hm d u;go_wp2_with fail
   refine B.aa.mono ?_;rintro e T⟨rfl,H⟩;have kW:=kr.tr H;clear J L B;exact Wl
  ·exact aht
theorem aqx l v q(f:Nat) cs w(h:aq nL l v w)(y:l.length<=1000000)(C:∀args W,(callFunc f args).run prog W=.ok (.enter f args) W)
 (u:∀W,K w W->∀x∈l,Calls prog f (#[.agg (gJ x)]++cs) W λe W'=>e=.returned (.bool (q x))/\K W W') :
 Calls prog 154 #[v,.func (.func f) #[] cs] w λe w'=>e=.returned (.bool (l.any q))/\K w w':=by
 have t:=ae (ar0 l v q f cs w h y C u)
 obtain⟨A,c,rfl⟩:=aw h
 clear h u
 generalize l.any q=R at *
 go_enter func154,ntmps154
 go_wp2_with fail
 refine t.aa.mono ?_
 rintro e D⟨i,rfl,B,j⟩
 have HR:=ae j
 clear t j
 go_wp2
 go_ret
 exact⟨Wn,B⟩
theorem avE(x:kV) a:decide (x.id=a)=(x.id.1==a.1&&(x.id.2.1==a.2.1&&x.id.2.2==a.2.2)):=by obtain⟨⟨A,u,t⟩,y⟩:=x;obtain⟨j,B,C⟩:=a;rw[Bool.eq_iff_iff];simp
theorem apE x a g w(hg:ah w g 26 #[.int .i64 a.1,.int .u64 (a.2.1:Int),.int .u64 (a.2.2:Int)]) :
 Calls prog 155 #[.agg (gJ x),.pointer (some ⟨g,0,none⟩)] w λe w'=>e=.returned (.bool (decide (x.id=a)))/\K w w':=by
 have j:=ae (avE x a)
 have q:=hg.cells
 have A:=λo=>(K.rf w).al o
 obtain⟨E,C,u⟩:=a
 obtain⟨⟨D,t,B⟩,y⟩:=x
 simp only at q j⊢
 generalize decide ((D,t,B)=(E,C,u))=R at *
 clear hg
 go_enter func155,ntmps155
 go_wp2
 all_goals
  go_ret
  refine⟨?_,(K.rf w).al _⟩
  rw[j.aa]
  show Ending.returned (.bool _)=Ending.returned (.bool _)
  clear q A
  first|(simp_all;done)|(simp_all;omega)|(congr 2;rw[Bool.eq_iff_iff];simp_all;omega)
theorem awQ:(prog.info? 225).map (λi=>(i.zero,i.size,i.bytes))=some (some (.agg #[.int .i64 0,.int .u64 0,.int .u64 0,.bool false]),4,32):=by kernel_rfl
theorem ake:fK prog 154 225 (.agg #[.int .i64 0,.int .u64 0,.int .u64 0,.bool false]) 4 32:=⟨underlying154,awQ,rfl,ay⟩
theorem ar1 kids:∀(l:List aK) (o:List kV),o.length<=16->(l.foldl (qH kids) o).length<=16:=by
 intro l
 induction l with
 | nil=>intro o h;exact h
 | cons x l j =>
  intro o h;refine j _ ?_;unfold qH;split
  ·simp;omega
  ·exact h
theorem ar2:∀(l:List aR) (o:List kV),o.length<=16->(l.foldl lK o).length<=16:=by
 intro l
 induction l with
 | nil=>intro o h;exact h
 | cons x l j =>
  intro o h;refine j _ ?_;unfold lK;split
  ·exact h
  ·split
   ·exact h
   ·simp;omega
theorem aqy:∀(l:List aR) (o:List kV),16<=o.length->l.foldl lK o=o:=by
 intro l
 induction l with
 | nil=>intro o h;rfl
 | cons x l t =>
  intro o h;have j:lK o x=o:=by unfold lK;rw[if_pos h]
  rw[List.foldl_cons,j];exact t o h
theorem aqz prom fe kids vp vf V w(hp:aq aU prom vp w)(hr:aq b5 fe vf w)(hk:aq xJ kids V w)
 (hlp:prom.length<=1000000) (tX:fe.length<=1000000) (hlk:kids.length<=1000000) (hv:∀m∈kids,m.cK.length<=1000000) :
 Calls prog 91 #[vp,vf,V] w λe w'=>∃v',e=.returned v'/\aA (λk=>k<w.heap.size) w.heap.size 225 nL (Ln prom fe kids) v' w'/\K w w':=by
 have CS:=ae λW (k:K w W) a=>acJ kids a V W (bo hk k) hlk hv
 have HE:Hid (Ln prom fe kids=fe.foldl lK (prom.foldl (qH kids) [])):=ae rfl
 have vI:=ae λj=>ar1 kids (prom.take j) [] aj
 have ayX:=ae λj o ho=>ar2 (fe.take j) o ho
 have XL:=ae λj o (h:16<=((fe.take j).foldl lK o).length)=>aqy (fe.drop j) _ h
 obtain⟨Ap,cp,rfl,hl,-⟩:=hp
 obtain⟨Ar,cr,rfl,eE,-⟩:=hr
 obtain⟨Ak,ck,rfl⟩:=aw hk
 generalize Ln prom fe kids=R at *
 have kk:=K.rf w
 have js:=aA.nil (λk=>k<w.heap.size) w.heap.size 225 nL w
 clear hk hv
 go_enter func91,ntmps91
 go_wp2
 go_step3
 go_wp2_with fail
 go_loopw [7,9,10,15] (fun o _ _ i W=>∃j:Nat,j<=prom.length/\i=.int .i64 (j:Int)/\aA (fun k=>k<w.heap.size) w.heap.size 225 nL ((prom.take j).foldl (qH kids) []) o W/\K w W) (fun _ _ _ i _=>prom.length-(intOf i).toNat)
 case atStart=>exact⟨0,af,rfl,js,kk⟩
 case round =>
  clear js kk;obtain⟨j,hj,rfl,A,kr⟩:=hrel;have hpl:=vI.aa j;by_cases H:j<prom.length
  ·have Y:(j:Int)<(prom.length:Int):=af;obtain⟨M,off,cs1,rfl,X,hrl,Q,d⟩:=ed hl j H ay;have t:=ae (fold_succ (qH kids) prom [] j H);generalize prom[j]=x at *;generalize (prom.take j).foldl (qH kids) []=P at *;obtain⟨y,gL⟩:∃y,Hid (y=(prom.take (j+1)).foldl (qH kids) []):=⟨_,ae rfl⟩;replace t:Hid (y=qH kids P x):=ae (gL.aa.trans t.aa);obtain⟨vf,ve,rfl,hf,he⟩:=hrl w (K.rf w);have q9:∀i,i<8->wr.cell? ⟨M,off+j*8+i,none⟩=(aD x vf ve)[i]?:=λi hi=>(d wr kr i hi).trans Array.getElem?_toList
   have q0:wr.cell? ⟨M,off+j*8,none⟩=some (.int .i64 x.kind):=Q wr kr;have E:=ah.new wr 126 (aD x vf ve);have F:=E.aS;obtain⟨Af,cf,rfl⟩:=b6 hf;obtain⟨Ae,ce,rfl⟩:=aw he;obtain⟨U,T,rfl⟩:=A.slice;clear d Q hf he hrl X;go_upto_region 5 with (fail);have G:=A.st F;have L:=kr.tr F;generalize wr.alloc _=w3 at *;clear q9 q0 A F kr;have q8:=E.cell;have I:=ae (CS.aa w3 L (ar x));go_wp2_with fail
   refine I.aa.mono ?_;rintro e J⟨rfl,D⟩;have gK:=L.tr D;have cB:=G.st D;have bZ:=E.av D;clear G D q8 I;by_cases h0:iZ kids (ar x)=0
   ·have HP:Hid (y=P):=ae (by rw[t.aa];unfold qH;rw[if_neg (by simp[h0])]);have h0b:(iZ kids (ar x) != 0)=false:=K7;generalize iZ kids (ar x)=z at *;clear h0;exact K8
   have h0b:(iZ kids (ar x) != 0)=true:=Ia;by_cases B:P.length<16;rotate_left
   ·have FY:¬(P.length:Int)<16:=af;have HP:Hid (y=P):=ae (by rw[t.aa];unfold qH;rw[if_neg (by omega)]);generalize iZ kids (ar x)=z at *;clear h0 B;exact K8
   have FY:(P.length:Int)<16:=af;have HP:Hid (y=P++[⟨ar x,iZ kids (ar x)==1⟩]):=ae (by
    rw[t.aa];unfold qH;rw[if_pos ⟨h0,B⟩];congr 3)
   generalize iZ kids (ar x)=z at *;have q8:=bZ.cell;clear h0 B t;have hr:=ew.new (S:=nL) (e:=225) (x:=⟨ar x,z==1⟩) (v:=.agg (gJ ⟨ar x,z==1⟩)) (w:=J) (N:=λk=>k<w.heap.size∨(Value.slice U P.length T).ownBlock=some k) (λW u=>rfl) 0 (eV _);have O:=K.new J (.cells (gJ ⟨ar x,z==1⟩) 225);have ij:=cB.st O;have pz:=gK.tr O;have qv:=pz.size;clear cB;go_wp2_with (at_builtin;refine jt rfl _ _ 154 rfl _ 4 32 ake rfl rfl ij _ rfl ⟨ar x,z==1⟩ ?p1 ?p2 ?p3 ?_)
   case p1=>exact hr
   case p2=>omega
   case p3=>exact qv
   exact Ws
  ·have Y:¬(j:Int)<(prom.length:Int):=af;have HR:Hid (R=fe.foldl lK ((prom.take j).foldl (qH kids) [])):=ae Wt;generalize (prom.take j).foldl (qH kids) []=P0 at *;have LV:=eE;have dM:=A;have k1:=kr;clear HE hl eE H hj vI A kr CS;obtain⟨C,rfl⟩:∃o,o=P0:=⟨_,rfl⟩;generalize wr=w1 at *;go_wp2_with fail
   go_step3;go_wp2_with fail
   go_loopw [7,12,41] (fun o _ i W=>∃j:Nat,j<=fe.length/\i=.int .i64 (j:Int)/\aA (fun k=>k<w.heap.size) w.heap.size 225 nL ((fe.take j).foldl lK C) o W/\K w W) (fun _ _ i _=>fe.length-(intOf i).toNat)
   case atStart=>exact⟨0,af,rfl,dM,k1⟩
   case round =>
    clear dM;obtain⟨j,hj,rfl,A,kr⟩:=hrel;have hp2:=ayX.aa j _ hpl;by_cases H:j<fe.length
    ·have Y:(j:Int)<(fe.length:Int):=af;obtain⟨M,o1,cs1,rfl,X,hr1,Q,dd⟩:=ed LV j H ay;have t:=ae (fold_succ lK fe C j H);have Z:=ae (XL.aa j C);have GS:=ae (show fe.foldl lK C=(fe.drop j).foldl lK ((fe.take j).foldl lK C) by rw[<- List.foldl_append,List.take_append_drop]);generalize fe[j]=x at *;generalize (fe.take j).foldl lK C=P at *;obtain⟨y,gL⟩:∃y,Hid (y=(fe.take (j+1)).foldl lK C):=⟨_,ae rfl⟩;replace t:Hid (y=lK P x):=ae (gL.aa.trans t.aa);obtain rfl:=hr1 wr kr;obtain⟨U,T,rfl⟩:=A.slice;have q9:∀i,i<3->wr.cell? ⟨M,o1+j*3+i,none⟩=(df x)[i]?:=λi hi=>(dd wr kr i hi).trans Array.getElem?_toList
     have q0:wr.cell? ⟨M,o1+j*3,none⟩=some (.int .i64 x.1):=Q wr kr;have E:=ah.new wr 26 (df x);have F:=E.aS;clear dd Q X hr1;go_upto_region 12 with (fail);have G:=A.st F;have L:=kr.tr F;generalize wr.alloc _=w3 at *;generalize wr.heap.size=gx at E⊢;clear q9 q0 A F kr;by_cases B:16<=P.length
     ·have FY:(16:Int)<=(P.length:Int):=af;have fU:Hid (R=P):=ae (by rw[HR.aa,GS.aa,Z.aa B]);have kF:=L;clear B t gL Z GS hp2 hpl;go_wp2;try rw[gq]
      go_ret;exact⟨_,rfl,by rw[fU.aa];exact G,kF⟩
     have FY:¬(16:Int)<=(P.length:Int):=af;clear Z GS;have I:=ae (aqx P _ (λv=>decide (v.id=x)) 155 #[.pointer (some ⟨gx,0,none⟩)] w3 G.aq af (λ_ _=>fk) λW k v _=>apE v x gx W (E.av k));go_wp2_with fail
     refine I.aa.mono ?_;rintro e J⟨rfl,D⟩;have gK:=L.tr D;have cB:=G.st D;have bZ:=E.av D;clear G D I;cases hb0:P.any λv=>decide (v.id=x)
     rotate_left
     ·have HP:Hid (y=P):=ae (by rw[t.aa];unfold lK;rw[if_neg B,if_pos hb0]);clear hb0 B;exact K8
     have HP:Hid (y=P++[⟨x,false⟩]):=ae (by rw[t.aa];unfold lK;rw[if_neg B,if_neg (by simp[hb0])]);have q8:=bZ.cell;clear hb0 t B;have hr:=ew.new (S:=nL) (e:=225) (x:=⟨x,false⟩) (v:=.agg (gJ ⟨x,false⟩)) (w:=J) (N:=λk=>k<w.heap.size∨(Value.slice U P.length T).ownBlock=some k) (λW u=>rfl) 0 (eV _);have O:=K.new J (.cells (gJ ⟨x,false⟩) 225);have ij:=cB.st O;have pz:=gK.tr O;have ig:=pz;have qv:=ig.size;clear cB;go_wp2_with (at_builtin;refine jt rfl _ _ 154 rfl _ 4 32 ake rfl rfl ij _ rfl ⟨x,false⟩ ?p1 ?p2 ?p3 ?_)
     case p1=>exact hr
     case p2=>omega
     case p3=>exact qv
     intro v9 w9 bq bB cQ aZ;have ui:=ig.trans aZ;exact ahu
    ·have Y:¬(j:Int)<(fe.length:Int):=af;have fU:Hid (R=(fe.take j).foldl lK C):=ae (by rw[HR.aa,fM (by omega)]);have kF:=kr;generalize (fe.take j).foldl lK C=P at *;obtain⟨U,T,rfl⟩:=A.slice;go_wp2;try rw[gq]
     go_ret;exact⟨_,rfl,by rw[fU.aa];exact A,kF⟩
theorem adr s:∀(l:List aK) (p:List aK×List aK),(l.foldl (mO s) p).1.length<=max p.1.length 4/\(l.foldl (mO s) p).2.length<=p.2.length+l.length:=by
 intro l
 induction l with
 | nil=>intro p;simp;omega
 | cons x l j =>
  intro p;have:=j (mO s p x);have t:(mO s p x).1.length<=max p.1.length 4/\(mO s p x).2.length<=p.2.length+1:=by
   unfold mO;split
   ·omega
   ·split
    ·simp;omega
    ·split
     ·simp;omega
     ·omega
  exact Wu
theorem aqA s op asks vl vp Y vo va w(hs:nh s (.agg (cE s vl vp Y)) w)(E:aq aU op vo w)(ha:aq aU asks va w)
 (ru:∀x∈op,eB x) (GQ:∀x∈asks,eB x) (jn:s.list.length<=1000000/\s.ab.length<=1000000) (hlo:op.length<=1000000) (JJ:asks.length<=500000) :
 Calls prog 140 #[.agg (cE s vl vp Y),vo,va] w λe w'=>∃v1 V,e=.returned (.tuple #[v1,V])/\lr w.heap.size w.heap.size 126 aU (oQ s op asks).1 v1 126 aU (oQ s op asks).2 V w'/\K w w':=by
 have uh:=ae λW (k:K w W)=>Ll hs k
 have CH:=ae λW (k:K w W) a=>Dg s a (.agg (cE s vl vp Y)) W (uh.aa W k) jn.1
 have CA:=ae λW (k:K w W) a=>Hi s a (.agg (cE s vl vp Y)) W (uh.aa W k) jn.2
 have CO:=ae λW (k:K w W)=>abo op vo W (bo E k) ru af
 have ZJ:Hid (oQ s op asks=asks.foldl (mO s) (op,[])):=ae rfl
 have vI:=ae λj=>adr s (asks.take j) (op,[])
 have HS:=ae GQ
 obtain⟨Je,Jf,ZH,e,Q,T,h3⟩:=hs
 simp at e
 obtain⟨rfl,rfl,rfl⟩:=e
 obtain⟨Al,cl,rfl⟩:=aw Q
 obtain⟨Ap,cp,rfl⟩:=aw T
 obtain⟨Ab,cb,rfl⟩:=aw h3
 obtain⟨Aa,ca,rfl,hl,-⟩:=ha
 obtain⟨Ao,co,rfl⟩:=aw E
 generalize oQ s op asks=R at *
 have hb:=ah.new w 46 (cE s (.slice Al s.list.length cl) (.slice Ap s.prom.length cp) (.slice Ab s.ab.length cb))
 have D:=hb.aS
 clear Q T h3 E uh GQ ru
 go_enter func140,ntmps140
 go_wp2
 go_step3
 generalize w.alloc _=U at *
 obtain⟨lo,X⟩:∃lo,Hid (lo=w.heap.size):=⟨_,ae rfl⟩
 generalize kp:w.heap.size=ga at hb⊢
 clear kp
 have qb:=hb.cells
 clear hb
 go_wp2_with fail
 refine (CO.aa U D).mono ?_
 rintro e w2⟨V,rfl,cA,k2⟩
 have A:lr lo U.heap.size 126 aU op V 126 aU ([]:List aK) (.slice none 0 0) w2:=lr.X6 (cA.less λk hk=>by rw[X.aa]at hk;exact bz hk D.size) (by rw[X.aa];exact D.size)
 have qb2:=qb
 clear cA CO qb
 obtain⟨A2,c2,rfl⟩:=A.a.slice
 have kk:=k2
 go_wp2_with fail
 go_step3
 go_wp2_with fail
 go_loopw [8,9,11,16] (fun o1 o2 _ i W=>∃j:Nat,j<=asks.length/\i=.int .i64 j/\lr lo U.heap.size 126 aU ((asks.take j).foldl (mO s) (op,[])).1 o1 126 aU ((asks.take j).foldl (mO s) (op,[])).2 o2 W/\K U W) (fun _ _ _ i _=>asks.length-(intOf i).toNat)
 case atStart=>exact⟨0,af,rfl,by simpa using A,kk⟩
 case round =>
  clear A kk;obtain⟨j,hj,rfl,A,kr⟩:=hrel;by_cases hlt:j<asks.length
  ·have aP:(j:Int)<asks.length:=af;obtain⟨b1,off,cs,rfl,eJ,hrl,d0,d⟩:=ed hl j hlt ay;have F:=ae (fold_succ (mO s) asks (op,[]) j hlt);have pw:=HS.aa _ (bS hlt);have hpl:=vI.aa j;generalize asks[j]=x at *;generalize (asks.take j).foldl (mO s) (op,[])=P at *;obtain⟨C,gL⟩:∃C,Hid (C=(asks.take (j+1)).foldl (mO s) (op,[])):=⟨_,ae rfl⟩;replace F:Hid (C=mO s P x):=ae (gL.aa.trans F.aa);have IZ:P.1.length<=1000000:=Ip;have LW:P.2.length<=500000:=Ip;obtain⟨u,B⟩:=P;simp only at A IZ LW;obtain⟨vf,ve,rfl,hf,he⟩:=hrl w (K.rf w);have oN:=D.tr kr;have HE:Hid (∀W,K w W->cV x (.agg (aD x vf ve)) W):=ae λW k=>⟨_,_,rfl,eH _ _ _ _ hf k,bo he k⟩
   have q9:∀i,i<8->wr.cell? ⟨b1,off+j*8+i,none⟩=(aD x vf ve)[i]?:=λi hi=>(d wr oN i hi).trans Array.getElem?_toList
   have q0:wr.cell? ⟨b1,off+j*8,none⟩=some (.int .i64 x.kind):=d0 wr oN;have Z:=ah.new wr 126 (aD x vf ve);have k3:=Z.aS;obtain⟨Af,cf,rfl⟩:=b6 hf;obtain⟨Ae,ce,rfl⟩:=aw he;obtain⟨A1,c1,rfl⟩:=A.a.slice;obtain⟨A3,c3,rfl⟩:=A.b.slice;clear d d0 hf he hrl eJ hpl;go_upto_region 6 with (fail);have EO:=A.st k3;have cH:=kr.tr k3;generalize wr.alloc _=w3 at *;clear q9 q0 A;have q8:=Z.cell;go_wp2_with fail
   refine (CH.aa w3 (D.tr cH) (ar x)).mono ?_;rintro e w4⟨rfl,t⟩;have gK:=cH.tr t;have s7:=EO.st t;have bZ:=Z.av t;clear EO t q8;have q8:=bZ.cell;cases hb0:bT s.list (ar x);rotate_left
   ·have HP:Hid (C=(u,B)):=ae (by rw[F.aa];unfold mO;rw[if_pos (by simp[hb0])]);exact ahv
   go_wp2_with fail
   refine (CA.aa w4 (D.tr gK) (ar x)).mono ?_;rintro e w5⟨rfl,t⟩;have lZ:=gK.tr t;have M:=s7.st t;have dR:=bZ.av t;clear s7 t q8;have q8:=dR.cell;cases aN:dG s.ab (ar x);rotate_left
   ·have HP:Hid (C=(u,B)):=ae (by rw[F.aa];unfold mO;rw[if_pos (by simp[hb0,aN])]);have lf:=ae M;clear M q8 hb0 aN;exact ahw
   go_wp2_with fail
   refine (ab9 u (ar x) _ w5 M.a.aq IZ).mono ?_;rintro e w6⟨rfl,t⟩;have nK:=lZ.tr t;have J:=M.st t;have iI:=dR.av t;clear M t q8;have q8:=iI.cell;cases hb2:bT u (ar x);rotate_left
   ·have HP:Hid (C=(u,B)):=ae (by rw[F.aa];unfold mO;rw[if_pos (by simp[hb0,aN,hb2])]);have lf:=ae J;clear J q8 hb0 aN hb2;exact ahx
   go_wp2_with fail
   refine (ab9 B (ar x) _ w6 J.b.aq af).mono ?_;rintro e w7⟨rfl,t⟩;have oF:=nK.tr t;have y:=J.st t;have oA:=iI.av t;clear J t q8;have q8:=oA.cell;cases bG:bT B (ar x);rotate_left
   ·have HP:Hid (C=(u,B)):=ae (by rw[F.aa];unfold mO;rw[if_pos (by simp[hb0,aN,hb2,bG])]);have lf:=ae y;clear y q8 hb0 aN hb2 bG;exact ahy
   have I:Hid (C=if x.kind≠1 then (u,B++[x])else if u.length<4 then (u++[x],B)else (u,B)):=ae (by rw[F.aa];unfold mO;rw[if_neg (by simp[hb0,aN,hb2,bG])]);clear hb0 aN hb2 bG;by_cases hk:x.kind≠1
   ·have hk2:(x.kind != 1)=true:=sE;have HP:Hid (C=(u,B++[x])):=ae (by rw[I.aa,if_pos hk]);clear I;go_wp2_with fail
    refine (Ox x _ w7 (HE.aa _ (D.tr oF)) pw).mono ?_;rintro e w8⟨v8,rfl,E,G⟩;obtain⟨N,O,rfl,L⟩:=Bq E;have sg:=y.a.blk;have eX:=y.b.blk;have LX:=oF.size;have kO:=y.lo;have pz:=oF.tr G;have hr:=ew.new (S:=aU) (e:=126) (v:=.agg (aD x N O)) L 0 (eV _);have H:=K.new w8 (.cells (aD x N O) 126);have lf:=y.st (G.tr H);have ig:=pz.tr H;have nt:=bn G.size H.size;clear y L E q8;go_wp2_with (at_builtin;refine jt rfl _ _ 43 rfl _ 8 96 oH rfl rfl lf.b _ rfl x ?p1 ?p2 ?p3 ?_)
    case p1 =>
     exact hr.less λk hk=>by
      rcases hk with (hk|hk)|hk
      ·omega
      ·have:=sg k hk;omega
      ·have:=eX k hk;omega
    case p2=>omega
    case p3=>exact bn LX nt
    intro v9 w9 bq bB cQ aZ;have LY:=(lf.swap.push bq bB pC).swap;exact ahz
   have hk2:(x.kind != 1)=false:=sE;by_cases kP:u.length<4
   ·have Ci:(u.length:Int)<4:=af;have HP:Hid (C=(u++[x],B)):=ae (by rw[I.aa,if_neg (by simpa using hk),if_pos kP]);clear I;go_wp2_with fail
    refine (Ox x _ w7 (HE.aa _ (D.tr oF)) pw).mono ?_;rintro e w8⟨v8,rfl,E,G⟩;obtain⟨N,O,rfl,L⟩:=Bq E;have sg:=y.a.blk;have eX:=y.b.blk;have LX:=oF.size;have kO:=y.lo;have pz:=oF.tr G;have hr:=ew.new (S:=aU) (e:=126) (v:=.agg (aD x N O)) L 0 (eV _);have H:=K.new w8 (.cells (aD x N O) 126);have lf:=y.st (G.tr H);have ig:=pz.tr H;have nt:=bn G.size H.size;clear y L E q8;exact ahA
   have HP:Hid (C=(u,B)):=ae (by rw[I.aa,if_neg (by simpa using hk),if_neg kP]);have Ci:¬(u.length:Int)<4:=af;have lf:=ae y;clear I y;exact ahy
  ·have aP:¬(j:Int)<asks.length:=af;obtain rfl:j=asks.length:=af;rw[lL]at A;have HT:=ae A;have kF:=D.tr kr;obtain⟨A1,c1,Q⟩:=A.a.slice;obtain⟨A3,c3,T⟩:=A.b.slice;subst Q T;clear A;go_wp2;go_ret2;exact⟨_,_,rfl,by rw[ZJ.aa,<- X.aa];exact HT.aa.low (by rw[X.aa];exact D.size) (aC _),kF⟩
def IB(s:dc)(a:aR):Bool:=bT s.list a||bT s.prom a||dG s.ab a
theorem aqB s a vl vp B g w(Q:nh s (.agg (cE s vl vp B)) w)(hg:ah w g 46 (cE s vl vp B))(F:s.list.length<=1000000/\s.prom.length<=1000000/\s.ab.length<=1000000) :
 Calls prog 306 #[bU a,.pointer (some ⟨g,0,none⟩)] w λe w'=>e=.returned (.bool (IB s a))/\K w w':=by
 have G:Hid (IB s a=(bT s.list a||bT s.prom a||dG s.ab a)):=ae rfl
 have E:=ae λW (k:K w W)=>Ll Q k
 have S:=ae λW (k:K w W)=>Dg s a (.agg (cE s vl vp B)) W (E.aa W k) F.1
 have X:=ae λW (k:K w W)=>J5 s a (.agg (cE s vl vp B)) W (E.aa W k) F.2.1
 have V:=ae λW (k:K w W)=>Hi s a (.agg (cE s vl vp B)) W (E.aa W k) F.2.2
 obtain⟨Je,Jf,ZH,e,L,N,M⟩:=Q
 simp at e
 obtain⟨rfl,rfl,rfl⟩:=e
 obtain⟨Al,cl,rfl⟩:=aw L
 obtain⟨Y,cp,rfl⟩:=aw N
 obtain⟨Z,cb,rfl⟩:=aw M
 have hb:=ah.new w 26 (df a)
 have j:=hb.aS
 have O:=hg.av j
 generalize IB s a=R at *
 clear L N M hg E
 go_enter func306,ntmps306
 go_upto_region 1 with (fail)
 generalize w.alloc _=J at *
 have t:=hb.cells
 have u:=O.cells
 have C:=t J (K.rf _)
 have D:=u J (K.rf _)
 clear hb O
 go_wp2_with fail
 refine (S.aa J j).mono ?_
 rintro e H⟨rfl,A⟩
 clear C D
 cases hb0:bT s.list a
 rotate_left
 ·have HF:Hid (R=true):=ae (by rw[G.aa,hb0];simp);have kF:=j.tr A;clear t u hb0;go_wp2;exact Bz
 have C:=t H A
 have D:=u H A
 go_wp2_with fail
 refine (X.aa H (j.tr A)).mono ?_
 rintro e I⟨rfl,U⟩
 have y:=A.tr U
 clear C D
 cases aN:bT s.prom a
 rotate_left
 ·have HF:Hid (R=true):=ae (by rw[G.aa,aN];simp);have kF:=j.tr y;clear t u hb0 aN;go_wp2;exact Bz
 have C:=t I y
 have D:=u I y
 go_wp2_with fail
 refine (V.aa I (j.tr y)).mono ?_
 rintro e w4⟨rfl,T⟩
 have HF:Hid (R=dG s.ab a):=ae (by rw[G.aa,hb0,aN];rfl)
 have kF:=j.tr (y.tr T)
 clear C D t u hb0 aN
 go_wp2
 go_ret
 exact⟨Dv,kF⟩
theorem aca s:∀(l:List aK) (p:List aK×List aR),(l.foldl (iN s) p).1.length<=p.1.length+l.length/\(l.foldl (iN s) p).2.length<=p.2.length+l.length:=by
 intro l
 induction l with
 | nil=>intro p;simp
 | cons x l j =>
  intro p;have:=j (iN s p x);have t:(iN s p x).1.length<=p.1.length+1/\(iN s p x).2.length<=p.2.length+1:=by
   unfold iN;split
   ·omega
   ·split
    ·simp
    ·simp
  exact Wu
theorem ao0 s l vl vp vb va w(hs:nh s (.agg (cE s vl vp vb)) w)(ha:aq aU l va w)
 (GQ:∀x∈l,eB x) (jn:s.list.length<=1000000/\s.prom.length<=1000000/\s.ab.length<=1000000) (JJ:l.length<=500000) :
 Calls prog 272 #[.agg (cE s vl vp vb),va] w λe w'=>∃v1 v2,e=.returned (.tuple #[v1,v2])/\lr w.heap.size w.heap.size 126 aU (nU s l).1 v1 26 b5 (nU s l).2 v2 w'/\K w w':=by
 have uh:=ae hs
 have ZJ:Hid (nU s l=l.foldl (iN s) ([],[])):=ae rfl
 have vI:=ae λj=>aca s (l.take j) ([],[])
 have HS:=ae GQ
 obtain⟨Je,Jf,ZH,e,X,h2,h3⟩:=hs
 simp at e
 obtain⟨rfl,rfl,rfl⟩:=e
 obtain⟨Al,cl,rfl⟩:=aw X
 obtain⟨Ap,cp,rfl⟩:=aw h2
 obtain⟨Ab,cb,rfl⟩:=aw h3
 obtain⟨Aa,ca,rfl,hl,-⟩:=ha
 generalize nU s l=R at *
 generalize azU:cE s (.slice Al s.list.length cl) (.slice Ap s.prom.length cp) (.slice Ab s.ab.length cb)=sa at *
 have hb:=ah.new w 46 sa
 have H:=hb.aS
 subst azU
 clear X h2 h3 GQ
 go_enter func272,ntmps272
 go_wp2
 go_step3
 generalize w.alloc _=E at *
 generalize M:w.heap.size=lo at hb⊢
 have lG:=ae M
 have hz1:lo<=E.heap.size:=by rw[<- M];exact H.size
 clear M
 have CK:=ae λW (k:K E W) a=>aqB s a _ _ _ lo W (Ll uh.aa (H.tr k)) (hb.av k) jn
 have qb:=hb.cells
 have kk:=K.rf E
 have A:lr lo E.heap.size 126 aU ([]:List aK) (.slice none 0 0) 26 b5 ([]:List aR) (.slice none 0 0) E:=lr.X6 (aA.nil _ _ _ _ _) hz1
 clear hb
 go_wp2_with fail
 go_step3
 go_wp2_with fail
 go_loopw [6,7,10,14] (fun o1 o2 _ i W=>∃j:Nat,j<=l.length/\i=.int .i64 (j:Int)/\lr lo E.heap.size 126 aU ((l.take j).foldl (iN s) ([],[])).1 o1 26 b5 ((l.take j).foldl (iN s) ([],[])).2 o2 W/\K E W) (fun _ _ _ i _=>l.length-(intOf i).toNat)
 case atStart=>exact⟨0,af,rfl,by simpa using A,kk⟩
 case round =>
  clear A kk;obtain⟨j,hj,rfl,A,kr⟩:=hrel;by_cases L:j<l.length
  ·have aP:(j:Int)<(l.length:Int):=af;obtain⟨b1,off,cs,rfl,eJ,hrl,d0,d⟩:=ed hl j L ay;have HF:=ae (fold_succ (iN s) l ([],[]) j L);have pw:=HS.aa _ (bS L);have hpl:=vI.aa j;generalize l[j]=x at *;generalize (l.take j).foldl (iN s) ([],[])=P at *;obtain⟨C,gL⟩:∃C,Hid (C=(l.take (j+1)).foldl (iN s) ([],[])):=⟨_,ae rfl⟩;replace HF:Hid (C=iN s P x):=ae (gL.aa.trans HF.aa);have IZ:P.1.length<=500000:=Ip;have LW:P.2.length<=500000:=Ip;obtain⟨t,B⟩:=P;simp only at A IZ LW;obtain⟨vf,U,rfl,Q,V⟩:=hrl w (K.rf w);have oN:=H.tr kr;have HE:Hid (∀W,K w W->cV x (.agg (aD x vf U)) W):=ae λW k=>⟨_,_,rfl,eH _ _ _ _ Q k,bo V k⟩
   have q9:∀i,i<8->wr.cell? ⟨b1,off+j*8+i,none⟩=(aD x vf U)[i]?:=λi hi=>(d wr oN i hi).trans Array.getElem?_toList
   have q0:wr.cell? ⟨b1,off+j*8,none⟩=some (.int .i64 x.kind):=d0 wr oN;have J:=ah.new wr 126 (aD x vf U);have Z:=J.aS;obtain⟨Af,cf,rfl⟩:=b6 Q;obtain⟨Ae,ce,rfl⟩:=aw V;obtain⟨A1,c1,rfl⟩:=A.a.slice;obtain⟨A3,c3,rfl⟩:=A.b.slice;clear d d0 Q V hrl eJ hpl;go_upto_region 7 with (fail);have EO:=A.st Z;have cH:=kr.tr Z;generalize wr.alloc _=w3 at *;clear q9 q0 A;have q8:=J.cell;go_wp2_with fail
   refine (CK.aa w3 cH (ar x)).mono ?_;rintro e w4⟨rfl,y⟩;have gK:=cH.tr y;have s7:=EO.st y;have bZ:=J.av y;clear EO y q8;have q8:=bZ.cell;cases hb0:IB s (ar x);rotate_left
   ·have HP:Hid (C=(t,B)):=ae awR;exact ahv
   go_wp2_with fail
   refine (abI t (ar x) _ w4 s7.a.aq af).mono ?_;rintro e w5⟨rfl,y⟩;have lZ:=gK.tr y;have G:=s7.st y;have Y:=bZ.av y;clear s7 y q8;have q8:=Y.cell;cases hb2:bT t (ar x);rotate_left
   ·have HP:Hid (C=(t,B)):=ae (by rw[HF.aa];unfold iN;rw[if_pos (by simp[hb2])]);have lf:=ae G;clear G q8 hb0 hb2;exact ahw
   go_wp2_with fail
   refine (E3 B (ar x) _ w5 G.b.aq af).mono ?_;rintro e T⟨rfl,y⟩;have nK:=lZ.tr y;have D:=G.st y;have iI:=Y.av y;clear G y q8;have q8:=iI.cell;cases bG:dG B (ar x);rotate_left
   ·have HP:Hid (C=(t,B)):=ae (by rw[HF.aa];unfold iN;rw[if_pos (by simp[bG])]);have lf:=ae D;clear D q8 hb0 hb2 bG;exact ahx
   have I:Hid (C=if s.prom.length+t.length<6 then (t++[x],B)else (t,B++[ar x])):=ae awS;have sg:=D.a.blk;have eX:=D.b.blk;have LX:=nK.size;clear hb0 hb2 bG;by_cases h6:s.prom.length+t.length<6
   ·have h6i:(s.prom.length:Int)+(t.length:Int)<6:=af;have HP:Hid (C=(t++[x],B)):=ae (by rw[I.aa,if_pos h6]);clear I h6;go_wp2_with fail
    refine (apq x _ T (HE.aa _ (H.tr nK)) pw).mono ?_;rintro e w8⟨v8,rfl,ho,O⟩;obtain⟨nP,nQ,rfl,jD⟩:=Bq ho;have pz:=nK.tr O;have hr:=ew.new (S:=aU) (e:=126) (v:=.agg (aD x nP nQ)) jD 0 (eV _);have F:=K.new w8 (.cells (aD x nP nQ) 126);have lf:=D.st (O.tr F);have ig:=pz.tr F;have nt:=bn O.size F.size;clear D jD ho q8;exact ahA
   ·have h6i:¬(s.prom.length:Int)+(t.length:Int)<6:=af;have HP:Hid (C=(t,B++[ar x])):=ae (by rw[I.aa,if_neg h6]);clear I h6;have hr:=ew.new (S:=b5) (e:=26) (x:=ar x) (v:=.agg (df (ar x))) (w:=T) (N:=λk=>(k<lo∨(Value.slice A1 t.length c1).ownBlock=some k)∨(Value.slice A3 B.length c3).ownBlock=some k) (λW u=>rfl) 0 (eV _);have F:=K.new T (.cells (df (ar x)) 26);have lf:=D.st F;have ig:=nK.tr F;have nt:=F.size;clear D;go_wp2_with (at_builtin;refine jt rfl _ _ 44 rfl _ 3 24 vX rfl rfl lf.b _ rfl (ar x) ?p1 ?p2 ?p3 ?_)
    case p1=>exact hr
    case p2=>omega
    case p3=>exact bn LX nt
    intro v9 w9 bq bB cQ aZ;have LY:=(lf.swap.push bq bB pC).swap;have ui:=ig.trans aZ;clear hr lf bq bB cQ aZ q8;exact Wv
  ·have aP:¬(j:Int)<(l.length:Int):=af;have HR:Hid (R=(l.take j).foldl (iN s) ([],[])):=ae (by rw[ZJ.aa,fM (by omega)]);have kF:=H.tr kr;generalize (l.take j).foldl (iN s) ([],[])=P at *;have HT:=ae (A.low (base':=lo) hz1 (aC _));obtain⟨A1,c1,rfl⟩:=A.a.slice;obtain⟨A3,c3,rfl⟩:=A.b.slice;clear A;go_wp2;go_ret2;exact⟨_,_,rfl,by rw[HR.aa,lG.aa];exact HT.aa,kF⟩
theorem Hv p n:(FH p n).length<=p.length:=by
 unfold FH;split
 ·unfold rL;exact VM
 ·simp
theorem awT{m v W}(h:lF m v W):xJ.rel m v.cells.toList W:=by obtain⟨j,t,B,y,u,A,rfl,h⟩:=h;exact⟨j,t,B,y,u,A,rfl,h⟩
theorem TW{M p B w}(h:bA M p B w)(E:bD B) :
 Calls prog 92 #[.pointer (some ⟨p.g,0,none⟩)] w λe w'=>∃v',e=.returned v'/\Fx M (λW=>aq xJ (dy B) v' W) w'/\K w w':=by
 have H:=ae h
 have U:=ae (TS h E)
 have pg:(oU B).length<=16:=bn (Hv _ _) (sD E.tr).2
 have HM:=ae h.low
 have q:=h.q
 have Z:=ae λW (k:K w W) x=>(Df (DX (P:=prog) (kt:=3) underlying3) underlying159 (ajl W) (h.rep.st k) x).2
 have HL:Hid (dy B=(oU B).map (i7 B)):=ae rfl
 generalize oU B=t at *
 generalize dy B=R at *
 obtain⟨g,gl,gd,gr,gt,vd,vr,vp,vh,vl,vq,va,vt,vf,vw,kr⟩:=p
 simp only at q Z
 clear h E
 go_enter func92,ntmps92
 go_wp2_with fail
 refine U.aa.mono ?_
 rintro e A⟨v1,rfl,dM,y⟩
 obtain⟨A1,c1,e1,kO,-⟩:=dM.aq
 subst e1
 have Jp:=ae kO
 clear dM kO U
 have hO:=aA.nil (λk=>M k) A.heap.size 156 xJ A
 have kk:=K.rf A
 go_wp2_with fail
 go_loopw [3,5,9] (fun o _ i W=>∃j:Nat,j<=t.length/\i=.int .i64 j/\aA (fun k=>M k) A.heap.size 156 xJ ((t.take j).map (i7 B)) o W/\K A W) (fun _ _ i _=>t.length-(intOf i).toNat)
 case atStart=>exact⟨0,af,rfl,Bv,kk⟩
 case round =>
  clear hO kk;obtain⟨j,hj,rfl,hO,u⟩:=hrel;by_cases hlt:j<t.length
  ·have aP:(j:Int)<t.length:=af;obtain⟨b,off,rfl,hcell⟩:=ints_at Jp.aa af;have cj:=hcell wr u j hlt;have HT:Hid ((t.take (j+1)).map (i7 B)=(t.take j).map (i7 B)++[i7 B t[j]]):=ae VT;generalize t[j]=x at *;have C:Fx (λk=>M k∨w.heap.size<=k) (λW=>lF (i7 B x) ((di kr x).getD (.agg Cv)) W) wr:=(H.aa.bI.to (X:=λ_=>False) (N:=λk=>M k∨w.heap.size<=k) (ag.aT (y.tr u) _) (λ_ h=>h.elim) (λk hk hx=>hx.resolve_right af)).mono λW d=>d.bQ.look x
   obtain⟨J,L,O,G,F,I,Y,hm⟩:=C.now;have D:=Z.aa wr (y.tr u) x;rw[Y]at D C;have qg:=q wr (y.tr u);simp only[encI]at D;have bR:=hO.blk;have V:=C.mono λW h=>awT h
   have Q:=ew.new (S:=xJ) (e:=156) (v:=.agg (km (i7 B x) J L O G F I)) V 0 (eV _);have bE:=hO.st ((K.rf wr).al (.cells (km (i7 B x) J L O G F I) 156));have T:=u.tr ((K.rf wr).al (.cells (km (i7 B x) J L O G F I) 156));clear hO C V hm Y hcell;go_wp2_with (at_builtin;refine jt rfl _ _ 164 rfl _ 8 160 TMs rfl rfl bE _ rfl (i7 B x) ?p1 ?p2 ?p3 ?_)
   case p1 =>
    refine Q.less λk hk=>?_
    rcases hk with hk|hk
    ·exact .inl hk
    ·have:=(bR k hk).1;have:=y.size;exact .inr af
   case p2=>simp;omega
   case p3=>exact T.size
   intro v9 w9 bq bB _ aZ;rw[<- List.map_take,<- HT.aa]at bq;have ig:=T.trans aZ;clear Q bE D qg cj;exact P7
  ·have aP:¬(j:Int)<t.length:=af;obtain rfl:j=t.length:=af;rw[lL]at hO;have HF:Hid (Fx M (λW=>aq xJ R _ W) wr):=ae (by rw[HL.aa];exact hO.fx λk hk=>bz (HM.aa k hk) y.size);have kF:=y.tr u;clear hO;go_wp2;go_ret;exact⟨_,rfl,HF.aa,kF⟩
def findF(t:eF)(is:Bool)(_:Nat)(xs:Array Value)(c:Value)(_:World):Prop:=∃vf j,xs=gE t vf j/\c=.bool is/\(∃A k,vf=.slice A t.e.f.length k)/\∃A k,j=.slice A t.e.es.length k
abbrev akf:Array Value:=gE vF (.slice none 0 0) (.slice none 0 0)
theorem ao1{M p B w}(h:bA M p B w)(hG:bD B) a :
 Calls prog 53 #[.pointer (some ⟨p.g,0,none⟩),bU a] w λe w'=>e=.returned (.int .i64 (Fy B a))/\K w w':=by
 have HR:Hid (Fy B a=if bT B.st.list a then 3 else if tu B a then 4 else if (sG B.aB a).2 then (if (sG B.aB a).1.asked then 2 else 1)else 0):=ae rfl
 have H:=ae h
 have HG:=ae hG
 have hb:=ah.new w 26 #[.int .i64 a.1,.int .u64 a.2.1,.int .u64 a.2.2]
 have Z:=hb.aS
 have y:=ae λW (k:K w W)=>aqk B.aB a p.vt W (h.bI.at k).aB hG.tx.small ahB
 have C:=ae λW (k:K w W)=>Dg B.st a (.agg (cE B.st p.vl p.vq p.va)) W ⟨_,_,_,rfl,(h.bI.at k).list,(h.bI.at k).prom,(h.bI.at k).ab⟩ Br
 have hs1:=aw h.bI.now.list
 have fC:=aw h.bI.now.prom
 have eU:=aw h.bI.now.ab
 have hs4:=aw h.bI.now.aB
 have q:=h.q
 obtain⟨g,gl,gd,gr,gt,vd,vr,vp,vh,vl,vq,va,vt,vf,vw,kr⟩:=p
 simp only at q y C hs1 fC eU hs4
 obtain⟨Al,cl,rfl⟩:=hs1
 obtain⟨Ap,cp,rfl⟩:=fC
 obtain⟨Aa,ca,rfl⟩:=eU
 obtain⟨At,ct,rfl⟩:=hs4
 obtain⟨S,mD⟩:∃S,S=sG B.aB a:=⟨_,rfl⟩
 obtain⟨T,ZK⟩:∃T,T=bT B.st.list a:=⟨_,rfl⟩
 obtain⟨L,G⟩:∃L,L=tu B a:=⟨_,rfl⟩
 simp only[<- mD,<- ZK,<- G]at y C HR
 have HA:=ae G
 obtain⟨tx,is⟩:=S
 clear h hG mD ZK G
 generalize Fy B a=R at *
 go_enter func53,ntmps53
 go_upto_region 3 with (fail)
 generalize w.alloc _=w1 at *
 generalize w.heap.size=ga at hb⊢
 have I:=hb.cells
 have X:=λW (k:K w1 W)=>q W (Z.tr k)
 have C3:=ae λW (k:K w1 W)=>y.aa W (Z.tr k)
 clear hb y q
 refine abp 128 akf (λi=>[Value.pointer (some ⟨g,0,none⟩),.pointer (some ⟨g,0,none⟩),.pointer (some ⟨g,8,none⟩),.slice At B.aB.length ct,bU a].getD i undef) (findF tx is)
  [([],[]),([0],[(10,0)]),([1],[(11,1)]),([2],[(12,2)]),([],[]),([3,4],[(13,3),(14,4)]),([5],[(15,5)]),([6],[(9,6)]),([6],[(9,6)]),([],[]),([7,9],[(5,9),(16,7)]),([8],[(17,8)])] 106 #[.slice At B.aB.length ct,bU a] 37 rfl ef ef ef rfl rfl ?gd ?pre ?call ?cc ?h6 ?h7 ?h8 ?h9 ?ph ?vM ?hk ?hlow ?_
 case gd=>simp
 case pre => intro i hi V W kW hp;have:i=0∨i=1∨i=2∨i=3∨i=4:=af;rcases this with rfl|rfl|rfl|rfl|rfl <;> simp at hp <;> simp[lB,aE,List.lookup,hp,execOp,aF,X,I,kW,go_sem]
 case call=>intro V W kW h3 h4;simp at h3 h4;simp[lB,aE,List.lookup,h3,h4,execOp,aF,go_sem]
 case cc => intro W kW;refine (C3.aa W kW).mono ?_;rintro e w3⟨u,rfl,⟨vf,ve,rfl,hf,he⟩,k3⟩;obtain⟨O,Q,rfl⟩:=b6 hf;obtain⟨U,J,rfl⟩:=aw he;exact⟨_,_,rfl,⟨_,_,rfl,rfl,⟨_,_,rfl⟩,⟨_,_,rfl⟩⟩,k3⟩
 case h6=>intro V W v j;simp[lB,aE,List.lookup,j,execOp,aF,go_sem]
 case h7=>intro V W xs c j;simp[lB,aE,List.lookup,j,execOp,aF,go_sem]
 case h8=>intro V W xs c j;simp[lB,aE,List.lookup,j,execOp,aF,go_sem]
 case h9=>intro V W;simp[lB,execOp,aF,go_sem];rfl
 case ph => rintro V W b lo xs c W0 F A hb⟨vf,ve,rfl,-,⟨O,Q,rfl⟩,U,J,rfl⟩;show ∃W',(execOp (aE [(5,9),(16,7)] _ V) (aF (.store 128 (.tmp 5) (.tmp 16)) _)).run prog W=_/\_/\_;exact acE (.tmp 5) (.tmp 16) 128 _ 128 b 0 akf (gE tx (.slice O tx.e.f.length Q) (.slice U tx.e.es.length J)) (by simp[aE,List.lookup,F]) (by simp[aE,List.lookup,A]) hb ef aj (by simp[Value.oneCell'])
 case vM=>intro V W c j;simp[lB,aE,List.lookup,j,execOp,aF,go_sem]
 case hk=>exact λlo xs c W W' h k=>h
 case hlow=>exact λlo xs c W W' b h hb u=>h
 intro V W b xs c lo kW hcs e5 e6 A e8 F pr bR hbk hlo Ct
 obtain⟨vf,ve,rfl,rfl,⟨O,Q,rfl⟩,U,J,rfl⟩:=Ct
 simp only[fX,Act.put,rJ,qM,qL,e5,e6,A,e8,F,pr]
 have t:=Z.tr kW
 have q2:=λW' (k:K W W')=>X W' (kW.tr k)
 have ud:=λW' (k:K W W')=>I W' (kW.tr k)
 have N:=hbk.cells
 have C4:=ae λW' (k:K W W')=>C.aa W' (t.tr k)
 have D:=ae λW' (k:K W W')=>Tx (H.aa.st (t.tr k)) HG.aa a
 simp only[<- HA.aa]at D
 clear hcs e5 e6 A e8 F pr X I C C3 hbk HA H HG
 go_upto_region 4 with (fail)
 cases T
 rotate_left
 ·have HF:Hid (R=3):=ae fE;have qs:=And.intro q2 ud;refine dD 7 [([],[]),([0],[(19,0)]),([1],[(20,1)]),([2],[(21,2)]),([],[]),([3,4],[(22,3),(23,4)]),([5],[(24,5)])] 37 ?_;iterate 5 refine au.i ?_
  refine au.is (.bool true) (λV W kW hp=>?_) ?_
  ·(try simp only[cd,aO,aQ,bW,bY,aJ]at hp)
   exact ahC
  refine au.i ?_;clear qs;intro V W kW hA;simp only[aO,aQ,cz,aJ,Nat.reduceAdd]at hA;refine aH.h ?_;have kF:=t.tr kW;clear hA q2 ud D N HR;go_wp2;exact Bz
 have qs:=And.intro q2 ud
 refine dD 7 [([],[]),([0],[(19,0)]),([1],[(20,1)]),([2],[(21,2)]),([],[]),([3,4],[(22,3),(23,4)]),([5],[(24,5)])] 37 ?_
 iterate 5 refine au.i ?_
 refine au.is (.bool false) (λV W kW hp=>?_) ?_
 ·(try simp only[cd,aO,aQ,bW,bY,aJ]at hp)
  exact ahC
 refine au.i ?_
 clear qs
 intro V W kW hA
 simp only[aO,aQ,cz,aJ,Nat.reduceAdd]at hA
 refine aH.h ?_
 have kF:=t.tr kW
 have C6:=ae (D.aa W kW)
 have qa3:=λi=>ud W kW i
 have ZM:=ae λW' (k:K W W')=>N W' (kW.tr k)
 clear hA q2 ud D N C4 t
 go_wp2_with fail
 refine C6.aa.mono ?_
 rintro e Y⟨rfl,k9⟩
 have kG:=kF.tr k9
 clear C6
 cases L
 rotate_left
 ·have HF:Hid (R=4):=ae fE;clear HR;exact Qe
 have E:=ZM.aa Y k9
 have HE:Hid (R=if is then (if tx.asked then 2 else 1)else 0):=ae fE
 clear HR qa3
 cases Ch:is
 ·have HF:Hid (R=0):=ae (by rw[HE.aa,Ch];rfl);exact Qe
 cases Yo:tx.asked
 ·have HF:Hid (R=1):=ae ahD;have q8:Y.cell? ⟨b,8,none⟩=some (.bool false):=(E 8).trans (by simp[gE,Yo]);clear E ZM;exact Qe
 ·have HF:Hid (R=2):=ae ahD;have q8:Y.cell? ⟨b,8,none⟩=some (.bool true):=(E 8).trans (by simp[gE,Yo]);clear E ZM;exact Qe
