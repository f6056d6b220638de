/-
  The walk of order.Decide (layer 19). Conditions: lists of at most a million.
-/
import Derived.Test.YtfndfpdhlbmboaaGreatMq08
import Derived.Test.YtfndfpdhlbmboaaGreatMqz
set_option maxRecDepth 100000
set_option maxHeartbeats 16000000
set_option linter.all false
namespace Go.Proofs.YtfndfpdhlbmboaaGreat
open Go Go.RowKit _root_.Go.Proofs.Tryz
section
variable {α β γ:Type} {S:dV α} {S2:dV β} {S3:dV γ} {lo:Nat} {e e2 e3:TypeId} {l l':List α} {l2:List β} {l3:List γ} {v v2 v3:Value} {w w':World}
structure vR(lo:Nat)(e:TypeId)(S:dV α)(l:List α)(v:Value)(e2:TypeId)(S2:dV β)(l2:List β)(v2:Value)(e3:TypeId)(S3:dV γ)(l3:List γ)(v3:Value)(w:World):Prop where
 a:aC (λk=>k<lo∨v2.ownBlock=some k∨v3.ownBlock=some k) lo e S l v w
 b:aC (λk=>k<lo∨v3.ownBlock=some k∨v.ownBlock=some k) lo e2 S2 l2 v2 w
 c:aC (λk=>k<lo∨v.ownBlock=some k∨v2.ownBlock=some k) lo e3 S3 l3 v3 w
 n12:∀k,v.ownBlock=some k->v2.ownBlock=some k->False
 n23:∀k,v2.ownBlock=some k->v3.ownBlock=some k->False
 n31:∀k,v3.ownBlock=some k->v.ownBlock=some k->False
theorem vR.Dt(h:vR lo e S l v e2 S2 l2 v2 e3 S3 l3 v3 w):vR lo e2 S2 l2 v2 e3 S3 l3 v3 e S l v w:=⟨h.b,h.c,h.a,h.n23,h.n31,h.n12⟩
theorem vR.st(h:vR lo e S l v e2 S2 l2 v2 e3 S3 l3 v3 w)(k:K w w'):vR lo e S l v e2 S2 l2 v2 e3 S3 l3 v3 w':=⟨h.a.st k,h.b.st k,h.c.st k,h.n12,h.n23,h.n31⟩
theorem vR.nil lo e(S:dV α) t(u:dV β) y(j:dV γ) w:vR lo e S [] (.slice none 0 0) t u [] (.slice none 0 0) y j [] (.slice none 0 0) w :=
 ⟨aC.nil _ _ _ _ _,aC.nil _ _ _ _ _,aC.nil _ _ _ _ _,λk h=>FT,λk h=>FT,λk h=>FT⟩
theorem vR.box(h:vR lo e S l v e2 S2 l2 v2 e3 S3 l3 v3 w){T t}(hb:Mv (λk=>k<lo∨v2.ownBlock=some k∨v3.ownBlock=some k) lo T e S l' v t w w')(D:t<lo) :
 ∃v',ah w' t T #[v']/\vR lo e S l' v' e2 S2 l2 v2 e3 S3 l3 v3 w'/\ag (λk=>k=t∨v.ownBlock=some k) w w':=by
 obtain⟨v',A,C,y,u⟩:=hb
 have:=h.b.blk
 have:=h.c.blk
 refine⟨v',A,⟨C,h.b.to u (λk hk=>?_) (λk j h6=>?_) (λk hk B=>?_),h.c.to u (λk hk=>?_) (λk j h6=>?_) (λk hk B=>?_),λk j h6=>?_,h.n23,λk j h6=>?_⟩,u⟩
 ·grind
 ·rcases h6 with rfl|h6
  ·grind
  ·exact h.n12 k h6 j
 ·grind
 ·grind
 ·rcases h6 with rfl|h6
  ·grind
  ·exact h.n31 k j h6
 ·grind
 ·rcases y k j with j|j
  ·exact h.n12 k j h6
  ·grind
 ·rcases y k h6 with h6|h6
  ·exact h.n31 k j h6
  ·grind
end
theorem adP kids a:jk kids a=0∨jk kids a=1∨jk kids a=2:=by
 grind [jk]
theorem azi W:(zeroValue 294).run prog W=.ok .nilFunc W:=by rfl
def MA(lo B C A:Nat)(y os:List aL)(ns:List aT)(W:World):Prop :=
 ∃t u j,ah W B 43 #[t]/\ah W C 43 #[u]/\ah W A 44 #[j]/\vR lo 126 aW y t 126 aW os u 26 bZ ns j W
theorem apv op kids vo vk w(ho:aq aW op vo w)(hk:aq yh kids vk w)(sC:∀x∈op,ew x)(hlo:op.length<=1000000)(hlk:kids.length<=1000000)(hv:∀m∈kids,m.cG.length<=1000000) :
 Calls prog 141 #[vo,vk] w λe w'=>∃D B S,e=.returned (.tuple #[D,B,S])/\Fx (λk=>k<w.heap.size) (λW=>aq aW (Eu op kids) D W) w'/\Fx (λk=>k<w.heap.size) (λW=>aq bZ (Dg op kids) B W) w'/\K w w':=by
 have HY:Hid (Eu op kids=op.filter λx=>decide (jk kids (au x)=1)):=ae rfl
 have HN:Hid (Dg op kids=(op.filter λx=>decide (jk kids (au x)=2)).map au):=ae rfl
 have C1:=ae λW (k:K w W) a=>ac2 kids a vk W (bj hk k) hlk hv
 have HS:=ae sC
 have YE:=ae λa=>adP kids a
 obtain⟨Ao,co,rfl,hl,-⟩:=ho
 obtain⟨Ak,ck,rfl⟩:=av hk
 generalize Eu op kids=RY at *
 generalize Dg op kids=RN at *
 generalize jk kids=t at *
 have hz2:((w.alloc (.cells #[.slice none 0 0] 43)).alloc (.cells #[.slice none 0 0] 43)).heap.size=w.heap.size+2:=aj
 have hz1:(w.alloc (.cells #[.slice none 0 0] 43)).heap.size=w.heap.size+1:=aj
 have iQ:(((w.alloc (.cells #[.slice none 0 0] 43)).alloc (.cells #[.slice none 0 0] 43)).alloc (.cells #[.slice none 0 0] 44)).heap.size=w.heap.size+3:=aj
 have aR:=((ah.new w 43 #[.slice none 0 0]).alloc (.cells #[.slice none 0 0] 43)).alloc (.cells #[.slice none 0 0] 44)
 have hb2:=(ah.new (w.alloc (.cells #[.slice none 0 0] 43)) 43 #[.slice none 0 0]).alloc (.cells #[.slice none 0 0] 44)
 have bP:=ah.new ((w.alloc (.cells #[.slice none 0 0] 43)).alloc (.cells #[.slice none 0 0] 43)) 44 #[.slice none 0 0]
 have y:=K.Rk w (.cells #[.slice none 0 0] 43) (.cells #[.slice none 0 0] 43) (.cells #[.slice none 0 0] 44)
 rw[hz1]at hb2
 rw[hz2]at bP
 clear hk sC hv hz1 hz2
 go_in
 go_upto_region 3 with fail
 generalize World.alloc (World.alloc (World.alloc w _) _) _=w3 at *
 obtain⟨g,hg⟩:∃g,g=w.heap.size:=⟨_,rfl⟩
 rw[<- hg]at aR hb2 bP iQ⊢
 have HG:=ae hg
 clear hg
 have hmm:=KC (P:=prog) underlying295 w3
 rw[iQ]at hmm
 have m0:dM encI (w3.alloc (.map #[] 0)) (g+3) []:=iQ▸dM.new w3
 have kA:=K.new w3 (.map #[] 0)
 have KI:=Es (P:=prog) (kt:=3) underlying3
 obtain⟨w4,r4,m4,g4⟩:=FC KI underlying295 m0 0 (.func (.func 233) #[] #[.pointer (some ⟨g+1,0,none⟩)])
 obtain⟨w5,r5,m5,g5⟩:=FC KI underlying295 m4 1 (.func (.func 234) #[] #[.pointer (some ⟨g,0,none⟩)])
 obtain⟨w6,r6,m6,g6⟩:=FC KI underlying295 m5 2 (.func (.func 235) #[] #[.pointer (some ⟨g+2,0,none⟩)])
 have NW:r7 (r7 (r7 ([]:List (Int×Value)) 0 (.func (.func 233) #[] #[.pointer (some ⟨g+1,0,none⟩)])) 1 (.func (.func 234) #[] #[.pointer (some ⟨g,0,none⟩)])) 2 (.func (.func 235) #[] #[.pointer (some ⟨g+2,0,none⟩)])=[(0,.func (.func 233) #[] #[.pointer (some ⟨g+1,0,none⟩)]),(1,.func (.func 234) #[] #[.pointer (some ⟨g,0,none⟩)]),(2,.func (.func 235) #[] #[.pointer (some ⟨g+2,0,none⟩)])]:=cC
 rw[NW]at m6
 simp only[encI]at r4 r5 r6
 have G:=(ag.aU kA _).tr (((ag.eP (X:=λk=>k=g+3) g4 λk e=>aB).tr (ag.eP (X:=λk=>k=g+3) g5 λk e=>aB)).tr (ag.eP (X:=λk=>k=g+3) g6 λk e=>aB))
 have k6:=G.k y λk hk=>QA
 have:=m6.lt
 have aAe:=aR.aX G af
 have aAf:=hb2.aX G af
 have aAg:=bP.aX G af
 go_wp2_with fail
 clear r4 r5 r6 hmm m0 m4 m5 g4 g5 g6 aR hb2 bP G kA y NW iQ
 have O:MA w6.heap.size g (g+1) (g+2) [] [] [] w6:=⟨_,_,_,aAe,aAf,aAg,vR.nil _ _ _ _ _ _ _ _⟩
 have uu:ag (λk=>k=g∨k=g+1∨k=g+2) w6 w6:=ag.rf _ _
 go_loopw [12,13,14,22] (fun _ _ _ i W=>∃j:Nat,j<=op.length/\i=.int .i64 j/\MA w6.heap.size g (g+1) (g+2) ((op.take j).filter fun x=>decide (t (au x)=1)) ((op.take j).filter fun x=>decide (t (au x)=0)) (((op.take j).filter fun x=>decide (t (au x)=2)).map au) W/\ag (fun k=>k=g∨k=g+1∨k=g+2) w6 W) (fun _ _ _ i _=>op.length-(intOf i).toNat)
 case atStart=>exact⟨0,af,rfl,fk,uu⟩
 case round =>
  clear O uu;obtain⟨j,hj,rfl,O,u⟩:=hrel;by_cases L:j<op.length
  ·have aO:(j:Int)<op.length:=af;obtain⟨b1,o1,cs1,rfl,iD,hrl,d0,d⟩:=ed hl j L ax;have F0:=ae (KF (λx=>decide (t (au x)=0)) op j L);have F1:=ae (KF (λx=>decide (t (au x)=1)) op j L);have F2:=ae (KF (λx=>decide (t (au x)=2)) op j L);have pW:=HS.aa _ (bT L);have:=lQ (λx=>decide (t (au x)=1)) (op.take j);have:=lQ (λx=>decide (t (au x)=0)) (op.take j);have:=lQ (λx=>decide (t (au x)=2)) (op.take j);have:(op.take j).length<=1000000:=aY;generalize op[j]=x at *;have eO:=HG.aa;have Z:=u.k k6 λk hk=>af
   clear eO;obtain⟨vf,ve,rfl,hf,he⟩:=hrl w (K.rf w);have HE:Hid (∀W,K w W->dx x (.agg (aE x vf ve)) W):=ae λW k=>⟨_,_,rfl,eu _ _ _ _ hf k,bj he k⟩
   have q9:∀i,i<8->wr.cell? ⟨b1,o1+j*8+i,none⟩=(aE x vf ve)[i]?:=λi hi=>(d wr Z i hi).trans Array.getElem?_toList
   have q0:wr.cell? ⟨b1,o1+j*8,none⟩=some (.int .i64 x.kind):=d0 wr Z;have hx:=ah.new wr 126 (aE x vf ve);have y:=hx.aS;obtain⟨Af,cf,rfl⟩:=b5 hf;obtain⟨Ae,ce,rfl⟩:=av he;clear d d0 hf he hrl iD;go_upto_region 7 with fail;generalize wr.alloc _=w7 at *;clear q9 q0;have q8:=hx.cell;have k07:=Z.tr y;have u7:=u.tr (ag.aU y _);go_wp2_with fail
   apply cF (C1.aa w7 k07 (au x)) k07;intro A E tu;have u8:=u7.tr (ag.aU E _);have m8:=m6.aX u8 af;have sF:=hx.ay E;clear q8;have q8:=sF.cell;obtain⟨D,B,S,F,Q,I,T⟩:=O;have SV:=F.ay (y.tr E);have SX:=Q.ay (y.tr E);have SY:=I.ay (y.tr E);have T8:=T.st (y.tr E);have pV:=u8.size;have C:=ae λn=>(DN (Es (P:=prog) (kt:=3) underlying3) underlying295 (azi A) m8 n).1
   have aAh:=T8.a.blk;have aAi:=T8.b.blk;have aAj:=T8.c.blk;clear F Q I T;rcases YE.aa (au x)with h|h|h
   ·have ql:=C.aa 0;simp only[cT,fW,encI]at ql;simp at ql;rw[h];have N:Hid ((op.take (j+1)).filter (λx=>decide (t (au x)=0))=(op.take j).filter (λx=>decide (t (au x)=0))++[x]):=ae WW;have J:Hid ((op.take (j+1)).filter (λx=>decide (t (au x)=1))=(op.take j).filter (λx=>decide (t (au x)=1))):=ae WX;have R:Hid (((op.take (j+1)).filter (λx=>decide (t (au x)=2))).map au=((op.take j).filter (λx=>decide (t (au x)=2))).map au):=ae WY;have CC:=ae (arV _ _ _ _ (g+1) x _ A (HE.aa A tu) pW SX T8.Dt.a (λk hk=>aB) (.inl af) pV af af);clear h C;go_wp2_with fail
    apply aI CC.aa;intro w9 hB;obtain⟨M,Y,U,sH⟩:=T8.Dt.box hB af;have N1:=SV.aX sH aB;have N3:=SY.aX sH aB;have SZ:MA w6.heap.size g (g+1) (g+2) ((op.take (j+1)).filter λx=>decide (t (au x)=1)) ((op.take (j+1)).filter λx=>decide (t (au x)=0)) (((op.take (j+1)).filter λx=>decide (t (au x)=2)).map au) w9:=by rw[N.aa,J.aa,R.aa];have H:=U.Dt.Dt;exact⟨D,M,S,N1,Y,N3,H⟩
    exact WZ
   ·have ql:=C.aa 1;simp only[cT,fW,encI]at ql;simp at ql;rw[h];have N:Hid ((op.take (j+1)).filter (λx=>decide (t (au x)=0))=(op.take j).filter (λx=>decide (t (au x)=0))):=ae WW;have J:Hid ((op.take (j+1)).filter (λx=>decide (t (au x)=1))=(op.take j).filter (λx=>decide (t (au x)=1))++[x]):=ae WX;have R:Hid (((op.take (j+1)).filter (λx=>decide (t (au x)=2))).map au=((op.take j).filter (λx=>decide (t (au x)=2))).map au):=ae WY;have CC:=ae (arW _ _ _ _ g x _ A (HE.aa A tu) pW SV T8.a (λk hk=>aB) (.inl af) pV af af);clear h C;go_wp2_with fail
    apply aI CC.aa;intro w9 hB;obtain⟨M,Y,U,sH⟩:=T8.box hB af;have N2:=SX.aX sH aB;have N3:=SY.aX sH aB;have SZ:MA w6.heap.size g (g+1) (g+2) ((op.take (j+1)).filter λx=>decide (t (au x)=1)) ((op.take (j+1)).filter λx=>decide (t (au x)=0)) (((op.take (j+1)).filter λx=>decide (t (au x)=2)).map au) w9:=by rw[N.aa,J.aa,R.aa];have H:=U;exact⟨M,B,S,Y,N2,N3,H⟩
    exact WZ
   ·have ql:=C.aa 2;simp only[cT,fW,encI]at ql;simp at ql;rw[h];have N:Hid ((op.take (j+1)).filter (λx=>decide (t (au x)=0))=(op.take j).filter (λx=>decide (t (au x)=0))):=ae WW;have J:Hid ((op.take (j+1)).filter (λx=>decide (t (au x)=1))=(op.take j).filter (λx=>decide (t (au x)=1))):=ae WX;have R:Hid (((op.take (j+1)).filter (λx=>decide (t (au x)=2))).map au=((op.take j).filter (λx=>decide (t (au x)=2))).map au++[au x]):=ae WY;have CC:=ae (arX _ _ _ _ (g+2) x _ A (HE.aa A tu) SY T8.Dt.Dt.a (.inl af) pV af aB);clear h C;go_wp2_with fail
    apply aI CC.aa;intro w9 hB;obtain⟨M,Y,U,sH⟩:=T8.Dt.Dt.box hB af;have N1:=SV.aX sH aB;have N2:=SX.aX sH aB;have SZ:MA w6.heap.size g (g+1) (g+2) ((op.take (j+1)).filter λx=>decide (t (au x)=1)) ((op.take (j+1)).filter λx=>decide (t (au x)=0)) (((op.take (j+1)).filter λx=>decide (t (au x)=2)).map au) w9:=by rw[N.aa,J.aa,R.aa];have H:=U.Dt;exact⟨D,B,M,N1,N2,Y,H⟩
    exact WZ
  ·have aO:¬(j:Int)<op.length:=af;obtain rfl:j=op.length:=af;rw[nc,<- HY.aa,<- HN.aa]at O;obtain⟨D,B,S,F,Q,I,T⟩:=O;have eO:=HG.aa;have Z:=u.k k6 λk hk=>af
   clear eO;have q1:=F.cells;have q2:=Q.cells;have q3:=I.cells;have:=k6.size;have X1:=ae ((T.a.less (Y':=λk=>k<w.heap.size) λk hk=>.inl af).fx λk hk=>af);have X3:=ae ((T.c.less (Y':=λk=>k<w.heap.size) λk hk=>.inl af).fx λk hk=>af);obtain⟨A1,c1,rfl⟩:=T.a.slice;obtain⟨A2,c2,rfl⟩:=T.b.slice;obtain⟨A3,c3,rfl⟩:=T.c.slice;clear F Q I T;go_upto_region 11 with fail;have qs:=And.intro q1 (And.intro q2 q3);refine dK 6 ?_;iterate 6 refine ar.i ?_
   clear qs;intro V W kW hA;simp only[aN,aQ,b6,aJ,Nat.reduceAdd]at hA;refine aH.h ?_;have kF:=Z.tr kW;have Y1:=ae (X1.aa.k kW);have Y3:=ae (X3.aa.k kW);clear hA q1 q2 q3 X1 X3;go_wp2;go_ret3;exact⟨_,_,⟨_,rfl⟩,Y1.aa,Y3.aa,kF⟩
theorem adQ{s y}:∀ {l:List aL} {p:List aL×List aL},(y∈(l.foldl (pw s) p).1->y∈p.1∨y∈l)/\(y∈(l.foldl (pw s) p).2->y∈p.2∨y∈l):=by
 intro l
 induction l with
 | nil=>intro p;exact⟨.inl,.inl⟩
 | cons x l j =>
  grind [pw]
theorem bC.open'{B}(j:bC B):(∀x∈(oH B.st B.waits (lu B)).1,bH x=true/\cE x)/\(∀x∈(oH B.st B.waits (lu B)).2,bH x=true/\cE x)/\(oH B.st B.waits (lu B)).1.length<=1000000/\(oH B.st B.waits (lu B)).2.length<=16:=by
 have h:=adK B.st (lu B) (B.waits,[]);have:=j.y5;have:=adN B;refine⟨λx t=>?_,λx t=>?_,?_,?_⟩
 ·rcases adQ.1 t with h|h
  ·exact j.waits x h
  ·exact j.asks h
 ·rcases adQ.2 t with h|h
  ·simp at h
  ·exact j.asks h
 ·grind [oH]
 ·grind [oH]
theorem Ih{l:List aL}:∀ {B:bf},bC B->(∀x∈l,cE x)->bC (l.foldl (λb x=>(mD b x).1) B)/\nr B (l.foldl (λb x=>(mD b x).1) B):=by
 induction l with
 | nil=>intro B h _;exact⟨h,nr.rf B⟩
 | cons x l u =>
  intro B h t;have j:=u (ac3 h (t x aj)) λy A=>t y aB
  exact⟨j.1,(ac4 B x).tr j.2⟩
theorem ar2{kids p x}(h:bC p.1)(j:cE x):bC (kH kids p x).1/\nr p.1 (kH kids p x).1/\(∀y∈(kH kids p x).2,y∈p.2∨y=x)/\(kH kids p x).2.length<=p.2.length+1:=by
 have:dJ (au x):=⟨j.2.1,j.2.2.2.1,j.2.2.2.2.1⟩
 have:∀y∈p.2++[x],y∈p.2∨y=x:=λy u=>aB
 unfold kH
 grind [ac3,ac4,nr.rf,aqv,aqw]
theorem KQ{kids}{l:List aL}:∀ {p:bf×List aL},bC p.1->(∀x∈l,cE x)->bC (l.foldl (kH kids) p).1/\nr p.1 (l.foldl (kH kids) p).1/\(∀y∈(l.foldl (kH kids) p).2,y∈p.2∨y∈l)/\(l.foldl (kH kids) p).2.length<=p.2.length+l.length:=by
 induction l with
 | nil=>intro p h _;exact⟨h,nr.rf _,λy j=>.inl j,aj⟩
 | cons x l B =>
  intro p h A;have t:=ar2 (kids:=kids) (x:=x) h (A x aj);have u:=B (p:=kH kids p x) t.1 λy j=>A y aB
  refine⟨u.1,t.2.1.tr u.2.1,λy j=>?_,?_⟩;all_goals grind
theorem KR{B}(y:bC B):bC (gA B):=by
 have u:=y.open';unfold gA;split
 ·have A:=Ih y λx t=>(u.2.1 x t).2
  have j:=KQ (kids:=dA B) (p:=(yK B,[])) A.1 λx t=>(u.1 x t).2
  exact⟨j.1.tr,j.1.me,j.1.hm,j.1.dk,j.1.tx,j.1.calls,j.1.bI,j.1.told,j.1.fB,λx t=>by
   rcases j.2.2.1 x t with h|h
   ·simp at h
   ·exact u.1 x h,by
   exact bo (show (nR B).2.length<=0+(oH B.st B.waits (lu B)).1.length from j.2.2.2) (by have:=u.2.2.1;omega)⟩
 ·exact y
theorem ar3{B B'}(h:nr B B'):dA B'=dA B:=by unfold dA pD iK;rw[h.me,h.par,h.bI]
theorem axm{op kids x}(j:x∈op):bU (Eu op kids) (au x)=decide (jk kids (au x)=1):=by
 grind [bU,Eu,au,jk]
theorem ayw{op kids x}(j:x∈op):dG (Dg op kids) (au x)=decide (jk kids (au x)=2):=by
 grind [dG,Dg,au,jk]
def Ry(M:Nat->Prop)(op u:List aL)(v:Value)(W:World):Prop:=∃j t,v=.tuple #[j,t]/\Fx M (λW=>aq aW op j W) W/\Fx M (λW=>aq aW u t W) W
theorem ah3 M op j:∀v w w',Ry M op j v w->Below w.heap.size w w'->Ry M op j v w':=by rintro v w w'⟨u,A,e,t,y⟩ k;exact⟨u,A,e,t.k k,y.k k⟩
def Hm(M:Nat->Prop)(l:List aL)(v:Value)(W:World):Prop:=Fx M (λW=>aq aW l v W) W
theorem LV M l:∀v w w',Hm M l v w->Below w.heap.size w w'->Hm M l v w':=λ_ _ _ h k=>Fx.k h k
theorem acy{M p B w}(h:bA M p B w)(hG:bC B) :
 Calls prog 87 #[.pointer (some ⟨p.g,0,none⟩)] w λe w'=>e=.returned (.tuple #[])/\dE M p (gA B) w w':=by
 have HR:Hid (gA B=if nh B then { (nR B).1 with waits:=(nR B).2 }else B):=ae rfl
 have Z4:Hid (yK B=(oH B.st B.waits (lu B)).2.foldl (λb x=>(mD b x).1) B):=ae rfl
 have HWD:Hid (nR B=(oH B.st B.waits (lu B)).1.foldl (kH (dA B)) (yK B,[])):=ae rfl
 have L:=ae hG.open'
 have H:=ae h
 have HG:=ae hG
 have je:=hG.Ed
 have C0:=ae (O2 h)
 have C1:=ae λW (k:K w W)=>acx (h.st k) hG
 have C2:=ae λW (k:K w W) va (ha:aq aW (lu B) va W)=>aqt B.st B.waits (lu B) p.vl p.vq p.va p.vw va W ⟨_,_,_,rfl,(h.bF.at k).list,(h.bF.at k).prom,(h.bF.at k).ab⟩ (h.bF.at k).waits ha je.2.2 (λx t=>uK (hG.asks t).1) ⟨Cb,Cb⟩ hG.y5 (by have:=adN B;omega)
 have HM:=ae h.low
 have hs1:=av h.bF.now.list
 have fH:=av h.bF.now.prom
 have fR:=av h.bF.now.ab
 have hs4:=av h.bF.now.waits
 have q:=h.q
 obtain⟨op,hop⟩:∃op,op=(oH B.st B.waits (lu B)).1:=⟨_,rfl⟩
 obtain⟨A,ur⟩:∃A,A=(oH B.st B.waits (lu B)).2:=⟨_,rfl⟩
 simp only[<- hop,<- ur]at C2 L Z4 HWD
 clear hop ur je h hG
 generalize M3:gA B=WB at *
 clear M3
 obtain⟨g,gl,gd,gr,gt,vd,vr,vp,vh,vl,vq,va,vt,jQ,vw,kr⟩:=p
 simp only at q C1 C2 hs1 fH fR hs4
 obtain⟨Al,cl,rfl⟩:=hs1
 obtain⟨Aq,cq,rfl⟩:=fH
 obtain⟨Aa,ca,rfl⟩:=fR
 obtain⟨Aw,cw,rfl⟩:=hs4
 go_in
 go_wp2
 go_step3
 go_wp2_with fail
 apply aI C0.aa
 intro w1 J
 clear C0
 cases aj0:nh B
 ·have HF:Hid (WB=B):=ae ah4;have HN:=ae (H.aa.n J);clear HR;go_wp2;rw[ig];refine bodyPost_ret (results_none rfl _ _ _) rfl ?_;exact W6
 have JM:Hid (WB={ (nR B).1 with waits:=(nR B).2 }):=ae ah4
 have q1:=λW (k:K w1 W)=>q W (J.tr k)
 clear HR q aj0
 go_upto_region 2 with fail
 have qs:=q1
 refine OP 16 [([],[]),([0],[(23,0)]),([1],[(24,1)]),([2],[(25,2)]),([],[]),([4],[(27,4)]),([5],[(28,5)]),([6],[(29,6)]),([],[]),([8],[(31,8)]),([3,7,9],[(26,3),(30,7),(32,9)]),([10],[(33,10)]),([11],[(22,11)]),([11],[(22,11)]),([12],[(34,12)]),([13],[(35,13)])] 94 ?_
 iterate 9 refine ar.i ?_
 refine ar.op (Hm M (lu B)) (LV _ _) (λV W kW hp=>?_) ?_
 ·(try simp only[cz,aN,aQ,bV,bW,aJ]at hp)
  simp[bO,aF,List.lookup,hp,cU,execOp,aG,q1,go_sem];apply bN (C1.aa W (J.tr kW));rintro v4 w4⟨R,k4⟩;exact⟨_,rfl,R,k4⟩
 refine ar.op (Ry M op A) (ah3 _ _ _) (λV W kW hp=>?_) ?_
 ·simp only[cz,aN,aQ,bV,bW,aJ]at hp;obtain⟨e3,e7,h9,-⟩:=hp;simp[bO,aF,List.lookup,e3,e7,cU,execOp,aG,go_sem];refine (C2.aa W (J.tr kW) (V 9) (Fx.now h9)).mono ?_;rintro e w4⟨v1,v2,rfl,hT,k4⟩;refine⟨_,rfl,⟨v1,v2,rfl,?_,?_⟩,k4⟩
  ·exact (hT.a.less (Y':=M) λk hk=>.inl (bw (HM.aa k hk) (J.tr kW).size)).fx λk hk=>bw (HM.aa k hk) (J.tr kW).size
  ·exact (hT.b.less (Y':=M) λk hk=>.inl (bw (HM.aa k hk) (J.tr kW).size)).fx λk hk=>bw (HM.aa k hk) (J.tr kW).size
 refine ar.op (Ry M op A) (ah3 _ _ _) (λV W kW hp=>?_) ?_
 ·simp only[cz,aN,aQ,bV,bW,aJ]at hp;obtain⟨⟨v1,v2,e,h1,h2⟩,-⟩:=hp;simp[bO,aF,List.lookup,e,cU,execOp,aG,cP,go_sem];exact⟨v1,v2,rfl,h1,h2⟩
 refine ar.op (Hm M op) (LV _ _) (λV W kW hp=>?_) ?_
 ·simp only[cz,aN,aQ,bV,bW,aJ]at hp;obtain⟨⟨v1,v2,e,h1,h2⟩,-⟩:=hp;simp[bO,aF,List.lookup,e,cU,execOp,aG,cP,go_sem];exact h1
 refine ar.op (Hm M A) (LV _ _) (λV W kW hp=>?_) ?_
 ·simp only[cz,aN,aQ,bV,bW,aJ]at hp;obtain⟨⟨v1,v2,e,h1,h2⟩,-⟩:=hp;simp[bO,aF,List.lookup,e,cU,execOp,aG,cP,go_sem];exact h2
 refine ar.op (Hm M op) (LV _ _) (λV W kW hp=>?_) ?_
 ·exact ah5
 refine ar.op (Hm M A) (LV _ _) (λV W kW hp=>?_) ?_
 ·exact ah5
 clear qs
 intro V W kW hA
 simp only[aN,aQ,b6,aJ,Nat.reduceAdd]at hA
 refine aH.h ?_
 obtain⟨-,-,-,-,-,-,-,-,-,-,-,-,-,-,h14,Hn,-⟩:=hA
 have kA:=J.tr kW
 have hb0:=H.aa.st kA
 have Z5:=Fx.fix h14 ax Q3
 have Z6:=Fx.fix Hn ax Q3
 generalize V 14=v14 at *
 generalize V 15=v15 at *
 obtain⟨A4,c4,rfl⟩:=Z5.slice
 obtain⟨A5,c5,rfl⟩:=Z6.slice
 have SS:=ae Z5
 have tB:=ae Z6
 have xW:=ae hb0
 have CI:=hb0.n (K.rf W)
 have S0:=ae kA
 have hlb:=L.aa.2.2.2
 have eX:=L.aa.2.2.1
 clear h14 Hn Z5 Z6 C1 C2 q1 kW J hb0 kA
 go_wp2_with fail
 go_loopw [7,38] (fun _ i wr=>∃j:Nat,j<=A.length/\i=.int .i64 j/\dE M ⟨g,gl,gd,gr,gt,vd,vr,vp,vh,.slice Al B.st.list.length cl,.slice Aq B.st.prom.length cq,.slice Aa B.st.ab.length ca,vt,jQ,.slice Aw B.waits.length cw,kr⟩ ((A.take j).foldl (fun b x=>(mD b x).1) B) W wr) (fun _ i _=>A.length-(intOf i).toNat)
 case atStart=>exact⟨0,af,rfl,by simpa using CI⟩
 case round =>
  clear CI;obtain⟨j,hj,rfl,p',D,u,E,I⟩:=hrel;by_cases N:j<A.length
  ·have aO:(j:Int)<A.length:=af;obtain⟨b1,o1,c1,cs1,e9,dX,hcl,R,hcell⟩:=tB.aa.at j N ax;injection e9 with e9 _ gu;subst e9 gu;have HF:=ae (fold_succ (λb x=>(mD b x).1) A B j N);have hm:=L.aa.2.1 _ (bT N);have O:=Ih HG.aa (l:=A.take j) λx t=>(L.aa.2.1 x (nQ t)).2
   generalize A[j]=x at *;generalize (A.take j).foldl (λb x=>(mD b x).1) B=Bj at *;have uM:=u.more xW.aa.sub;have rQ:=hcell wr uM;obtain⟨vf,T,rfl,hf,he⟩:=R wr uM;have q9:∀i,i<8->wr.cell? ⟨b1,o1+j*8+i,none⟩=(aE x vf T)[i]?:=λi hi=>(rQ i hi).trans Array.getElem?_toList
   have q0:wr.cell? ⟨b1,o1+j*8,none⟩=some (.int .i64 x.kind):=q9 0 ax;have HE:Hid (∀W,K wr W->dx x (.agg (aE x vf T)) W):=ae λW k=>⟨_,_,rfl,eu _ _ _ _ hf k,bj he k⟩
   have t:=ah.new wr 126 (aE x vf T);have k3:=t.aS;obtain⟨Af,cf,rfl⟩:=b5 hf;obtain⟨Ae,ce,rfl⟩:=av he;clear hcell rQ R hcl dX hf he;go_upto_region 6 with fail;generalize wr.alloc _=w3 at *;clear q9 q0;have q8:=t.cell;have Y:=ae (acp (D.st k3) O.1 x _ (HE.aa w3 k3) hm.2 (uK hm.1));simp only[BH E]at Y;have u3:=u.tr (ag.aU k3 _);have BL:=ae I;have xX:=ae E;clear D O E I;go_wp2_with fail
   apply aI Y.aa;intro w4 U;have Fa:=dE.tr u3 xX.aa BL.aa (λk hk=>.inl hk) U;rw[<- HF.aa]at Fa;clear Y q8 t U;go_wp2;go_roundw
   case rel=>exact⟨j+1,af,bD,Fa⟩
   case measure=>simp[intOf];omega
  ·have aO:¬(j:Int)<A.length:=af;obtain rfl:j=A.length:=af;rw[nc,<- Z4.aa]at D;have hg1:=Ih HG.aa (l:=A) λx t=>(L.aa.2.1 x t).2
   rw[<- Z4.aa]at hg1;obtain⟨hg1,hs1⟩:=hg1;have aAk:=ae (ar3 hs1);generalize yK B=Z at *;have Y:=ae (Ux D hg1);rw[aAk.aa]at Y;simp only[BH E]at Y;have qG:=adO HG.aa;have NW:∀m∈dA B,m.cG.length<=1000000:=λm hm=>by have:=(HG.aa.last hm).2.1;omega
   have aAl:=ae (λW' (k:K wr W')=>bj ((SS.aa.fx ax) wr (u.more xW.aa.sub)) k);have Nk:=ae hg1;have He:=ae D;have BL:=ae I;have xX:=ae E;have sC:=λx t=>uK (L.aa.1 x t).1
   have C4:=ae λW' (k:K wr W') vk (hk:aq yh (dA B) vk W')=>apv op (dA B) _ vk W' (aAl.aa W' k) hk sC eX af NW
   clear D hg1 hs1 I E NW sC;go_wp2_with fail
   apply bN Y.aa;rintro vk w6⟨hFk,k6⟩;have Hp:=hFk.now;have C5:=ae (C4.aa w6 k6 vk Hp);obtain⟨Ak,ck,rfl⟩:=av Hp;clear Y C4 hFk Hp;go_wp2_with fail
   refine C5.aa.mono ?_;rintro e C⟨vy,vn,vz,rfl,J8,Hp,k7⟩;have EZ:=k6.tr k7;have Z7:=He.aa.st EZ;have hBl:=He.aa.low;have u7:=u.tr (ag.aU EZ _);have xE:=k6.size;have HL7:Hid (ji (λk=>M k∨bu p' k) aW op (.slice A4 op.length c4) C):=ae (SS.aa.to u7 xW.aa.sub (λk hk t=>by
    rcases t with h|h
    ·exact h
    ·exact xW.aa.sub k ((BL.aa k h).resolve_right af)) ax)
   have HY:=ae J8;have HN:=ae Hp;have HBS:=ae (λk (hk:bu p' k)=>bw (hBl k (.inr hk)) xE);obtain⟨Ay,cy,hy⟩:=av J8.now;obtain⟨An,cn,hn⟩:=av Hp.now;subst hy hn;have ZC:(Eu op (dA B)).length<=1000000:=bo (lQ _ _) eX;have hnl:(Dg op (dA B)).length<=1000000:=by unfold Dg;rw[List.length_map];exact bo (lQ _ _) eX
   have HB7:=ae Z7;have J1:=ae u7;have tz:bA (λk=>((M k∨bu p' k)∨(Value.slice none 0 0).ownBlock=some k)∨bu p' k) p' Z C:=Z7.less (λk hk=>.inr hk) λk hk=>by
    rcases hk with (h|h)|h
    ·exact h
    ·simp[Value.ownBlock]at h
    ·exact .inr h
   have iU:=aC.nil (λk=>(M k∨bu p' k)∨C.heap.size<=k) C.heap.size 126 aW C;clear C5 J8 Hp k7 Z7 hBl u u7;go_wp2_with fail
   go_step3;go_wp2_with fail
   go_loopw [11,13,14,56] (fun o _ _ i wr=>∃(j:Nat) (p'':nE),j<=op.length/\i=.int .i64 j/\bA (fun k=>((M k∨bu p' k)∨o.ownBlock=some k)∨bu p'' k) p'' ((op.take j).foldl (kH (dA B)) (Z,[])).1 wr/\ag (bu p') C wr/\p''.key=(g,gd)/\(∀k,bu p'' k->bu p' k∨C.heap.size<=k)/\(∀k,o.ownBlock=some k->¬bu p'' k)/\aC (fun k=>(M k∨bu p' k)∨C.heap.size<=k) C.heap.size 126 aW ((op.take j).foldl (kH (dA B)) (Z,[])).2 o wr) (fun _ _ _ i _=>op.length-(intOf i).toNat)
   case atStart=>exact⟨0,p',af,rfl,tz,ag.rf _ _,xX.aa,λk hk=>.inl hk,λk hk=>ah1,iU⟩
   case round =>
    clear tz iU;obtain⟨j,p2,hj,rfl,D,u,E,I,J9,G⟩:=hrel;by_cases N:j<op.length
    ·have aO:(j:Int)<op.length:=af;obtain⟨b1,o1,c1,cs1,e9,dX,hcl,R,hcell⟩:=HL7.aa.at j N ax;injection e9 with e9 _ gu;subst e9 gu;have Ka:=ae (fold_succ (kH (dA B)) op (Z,[]) j N);have hm:=L.aa.1 _ (bT N);have hyh:=axm (kids:=dA B) (bT N);have N0:=ayw (kids:=dA B) (bT N);have O:=KQ (kids:=dA B) (p:=(Z,[])) (l:=op.take j) Nk.aa λx t=>(L.aa.1 x (nQ t)).2
     have SU:=O.2.2.2;replace O:=O.1;have aFJ:(op.take j).length<=1000000:=aY;generalize op[j]=x at *;generalize (op.take j).foldl (kH (dA B)) (Z,[])=Q at *;obtain⟨P',ic⟩:∃P',Hid (P'=(op.take (j+1)).foldl (kH (dA B)) (Z,[])):=⟨_,ae rfl⟩;replace Ka:Hid (P'=kH (dA B) Q x):=ae (ic.aa.trans Ka.aa);obtain⟨Bj,lj⟩:=Q;simp only at D G O SU;have uM:ag (λk=>M k∨bu p' k) C wr:=u.more λk hk=>.inr hk
     have rQ:=hcell wr uM;obtain⟨vf,T,rfl,hf,he⟩:=R wr uM;have mm:Fx (λk=>(M k∨bu p' k)∨C.heap.size<=k) (λW=>aW.rel x (aE x vf T).toList W) wr:=R.to uM (λ_ h=>h) λk hk t=>t.resolve_right af
     have q9:∀i,i<8->wr.cell? ⟨b1,o1+j*8+i,none⟩=(aE x vf T)[i]?:=λi hi=>(rQ i hi).trans Array.getElem?_toList
     have q0:wr.cell? ⟨b1,o1+j*8,none⟩=some (.int .i64 x.kind):=q9 0 ax;have HE:Hid (∀W,K wr W->dx x (.agg (aE x vf T)) W):=ae λW k=>⟨_,_,rfl,eu _ _ _ _ hf k,bj he k⟩
     have t:=ah.new wr 126 (aE x vf T);have k3:=t.aS;have bS:=G.blk;obtain⟨Af,cf,rfl⟩:=b5 hf;obtain⟨Ae,ce,rfl⟩:=av he;obtain⟨Ao,co,rfl⟩:=G.slice;have S4:=ae mm;have iQ:=u.size;have HYr:=ae (λW' (k:K wr W')=>bj (HY.aa wr (u.more HBS.aa)) k);have HNr:=ae (λW' (k:K wr W')=>bj (HN.aa wr (u.more HBS.aa)) k);have Z8:=ae D;have S5:=ae u;have Rz:=ae E;have Hq:=ae I;have zP:=ae J9;have HOr:=ae G;have Zv:=ae bS;clear hcell rQ R hcl dX hf he mm uM D u E I J9 G bS;go_upto_region 13 with fail;generalize wr.alloc _=w8 at *;obtain⟨ga,lL⟩:∃ga,Hid (ga=wr.heap.size):=⟨_,ae rfl⟩;rw[<- lL.aa]at t⊢;clear q9 q0;have C6:=ae (O3 (Eu op (dA B)) _ (gZ (au x)) 143 #[.pointer (some ⟨ga,0,none⟩)] w8 (HYr.aa w8 k3) ZC (λ_ _=>cC) (λW k y _ u hu=>aqp y x u _ _ ga W hu (t.ay k)));have Hj:Hid ((Eu op (dA B)).any (gZ (au x))=decide (jk (dA B) (au x)=1)):=ae hyh;rw[Hj.aa]at C6;clear hyh Hj;go_wp2_with fail
     apply cF C6.aa k3;intro w9 k9 uE;have pg:=t.ay k9;have q8:=pg.cell;have ZK:=HE.aa w9 uE;have uC:=Z8.aa.st uE;have kV:=kg Rz.aa;have YE:=adP (dA B) (au x);have S6:Hid (P'=if jk (dA B) (au x)=1 then (if (mD Bj x).2 then ((mD Bj x).1,lj)else (Bj,lj++[x]))else if jk (dA B) (au x)=2 then (if (nN Bj (au x)).2 then ((nN Bj (au x)).1,lj)else (Bj,lj++[x]))else (Bj,lj++[x])):=ae Ka.aa;clear C6 t Ka;generalize jk (dA B) (au x)=sx at *;rcases YE with rfl|rfl|rfl
     ·have aAm:decide ((0:Int)=1)=false:=ax;have HQ:Hid (P'=(Bj,lj++[x])):=ae W7;have F:=ae λW (k:K w9 W)=>Fo (Dg op (dA B)) (au x) _ W (HNr.aa W (uE.tr k)) hnl
      rw[N0]at F;clear S6 N0;go_wp2_with fail
      apply cF (F.aa w9 (K.rf _)) uE;intro wS Kb RA;have y8:=Z8.aa.st RA;have uR:=S5.aa.tr (ag.aU RA _);have Ey:=Rz.aa;have Ez:=Hq.aa;have En:=zP.aa;have nY:=HOr.aa.st RA;clear F kV;have MC:=pg.ay Kb;have S7:=MC.cell;have Z9:=ae (S4.aa.k RA);have kA:=K.new wS (.cells (aE x (.slice Af x.f.length cf) (.slice Ae x.es.length ce)) 126);have E9:=nY.st kA;have RB:=nY.blk;have hr:=ez.new (S:=aW) (e:=126) (v:=.agg (aE x (.slice Af x.f.length cf) (.slice Ae x.es.length ce))) Z9.aa 0 (eE _);have MD:=y8.st kA;have RC:=uR.size;have zQ:=ae (And.intro y8 (And.intro uR (And.intro Ey (And.intro Ez (And.intro En nY)))));have Jf:=ae MD;have aAn:lj.length<=1000000:=by simp at SU;omega
      clear y8 uR Ey Ez En nY MD uC q8;go_wp2_with (at_builtin;refine jz rfl _ _ 43 rfl _ 8 96 oZ rfl rfl E9 _ rfl x ?p1 ?p2 ?p3 ?_)
      case p1 => exact ah6
      case p2=>omega
      case p3=>exact bo RC kA.size
      intro v11 N4 Bb um Ge Jg;have akP:=ae Bb;have N5:=kA.size;have hBw:bA (λk=>((M k∨bu p' k)∨v11.ownBlock=some k)∨bu p2 k) p2 Bj N4:=Jf.aa.far (X:=λk=>(Value.slice Ao lj.length co).ownBlock=some k) (ag.eP um λk e=>e) (λk hk=>.inl (.inr hk)) (λk hk=>zQ.aa.2.2.2.2.1 k hk) (λk hk h=>by
       rcases h with (h|h)|h
       ·exact .inl (.inl h)
       ·exact ah7
       ·exact .inr h) (λk hk=>.inr hk) (λk hk=>by
        have hg:=um.size;rcases hk with (h|h)|h
        ·exact ah8
        ·exact (Bb.blk k h).2
        ·exact bw (Jf.aa.low k (.inr h)) um.size)
      have Mf:∀k,v11.ownBlock=some k->¬bu p2 k:=λk hk h=>by exact ah9
      have u11:=(zQ.aa.2.1.tr (ag.aU kA _)).gq (ag.eP (X:=λk=>(Value.slice Ao lj.length co).ownBlock=some k) um λk e=>e) λk hk h=>by have:=(RB k h).1;omega
      have HH:=ae (And.intro hBw (And.intro u11 (And.intro zQ.aa.2.2.1 (And.intro zQ.aa.2.2.2.1 Mf))));clear hBw u11 Mf hr E9 Bb um Ge Jg S7 MC;go_wp2;go_roundw
      case rel=>exact⟨j+1,p2,af,bD,Xa,HH.aa.2.1,HH.aa.2.2.1,HH.aa.2.2.2.1,HH.aa.2.2.2.2,aia⟩
      case measure=>simp[intOf];omega
     ·have F:=ae (acp (M:=λk=>((M k∨bu p' k)∨(Value.slice Ao lj.length co).ownBlock=some k)∨bu p2 k) uC O x _ ZK hm.2 (uK hm.1));simp only[kV]at F;have sD:Hid ((mD Bj x).2=false->(mD Bj x).1=Bj):=ae aew;clear N0 kV;generalize mD Bj x=LB at *;obtain⟨L1,L2⟩:=LB;simp only at F sD S6;go_wp2_with fail
      apply aI F.aa;intro wS U;obtain⟨p3,pN,u3,iO,N6⟩:=U;have oA:=uE.size;have uR:=(S5.aa.tr (ag.aU uE _)).gq u3 λk hk h=>(Hq.aa k h).resolve_right af
      have Ez:∀k,bu p3 k->bu p' k∨C.heap.size<=k:=λk hk=>by exact aib
      have En:∀k,(Value.slice Ao lj.length co).ownBlock=some k->¬bu p3 k:=λk hk h=>by exact aic
      have nY:=(HOr.aa.st uE).to (Y':=λk=>(M k∨bu p' k)∨C.heap.size<=k) u3 (λk hk=>(Hq.aa k hk).imp .inr id) (λk hk h=>zP.aa k hk h) λk _ hk=>.inl hk
      have y8:bA (λk=>((M k∨bu p' k)∨(Value.slice Ao lj.length co).ownBlock=some k)∨bu p3 k) p3 L1 wS:=pN.less (λk hk=>.inr hk) λk hk=>by exact aid
      have Ey:=iO.trans Rz.aa;clear F;exact aie
     ·have aAm:decide ((2:Int)=1)=false:=ax;have F:=ae λW (k:K w9 W)=>Fo (Dg op (dA B)) (au x) _ W (HNr.aa W (uE.tr k)) hnl
      rw[N0]at F;clear N0;go_wp2_with fail
      apply aI (F.aa w9 (K.rf _));intro w9' k9';replace uE:=uE.tr k9';replace pg:=pg.ay k9';replace q8:=pg.cell;replace uC:=uC.st k9';have C8:=ae (aoI (M:=λk=>((M k∨bu p' k)∨(Value.slice Ao lj.length co).ownBlock=some k)∨bu p2 k) uC O (au x) ⟨hm.2.2.1,hm.2.2.2.2.1,hm.2.2.2.2.2.1⟩);simp only[kV]at C8;have sD:Hid ((nN Bj (au x)).2=false->(nN Bj (au x)).1=Bj):=ae λh=>by
       unfold nN at h⊢;split
       ·rename_i hh;rw[if_pos hh]at h;cases h
       ·rfl
      clear kV F;generalize nN Bj (au x)=LB at *;obtain⟨L1,L2⟩:=LB;simp only at C8 sD S6;go_wp2_with fail
      apply aI C8.aa;intro wS U;obtain⟨p3,pN,u3,iO,N6⟩:=U;have oA:=uE.size;have uR:=(S5.aa.tr (ag.aU uE _)).gq u3 λk hk h=>(Hq.aa k h).resolve_right af
      have Ez:∀k,bu p3 k->bu p' k∨C.heap.size<=k:=λk hk=>by exact aib
      have En:∀k,(Value.slice Ao lj.length co).ownBlock=some k->¬bu p3 k:=λk hk h=>by exact aic
      have nY:=(HOr.aa.st uE).to (Y':=λk=>(M k∨bu p' k)∨C.heap.size<=k) u3 (λk hk=>(Hq.aa k hk).imp .inr id) (λk hk h=>zP.aa k hk h) λk _ hk=>.inl hk
      have y8:bA (λk=>((M k∨bu p' k)∨(Value.slice Ao lj.length co).ownBlock=some k)∨bu p3 k) p3 L1 wS:=pN.less (λk hk=>.inr hk) λk hk=>by exact aid
      have Ey:=iO.trans Rz.aa;clear C8;exact aie
    ·have aO:¬(j:Int)<op.length:=af;obtain rfl:j=op.length:=af;rw[nc,<- HWD.aa]at D G;have uf:=J1.aa.gq u λk hk h=>(BL.aa k h).resolve_right af
     have Fb:=J1.aa.size;have hX9:∀k,bu p2 k->bu ⟨g,gl,gd,gr,gt,vd,vr,vp,vh,.slice Al B.st.list.length cl,.slice Aq B.st.prom.length cq,.slice Aa B.st.ab.length ca,vt,jQ,.slice Aw B.waits.length cw,kr⟩ k∨W.heap.size<=k:=λk hk=>by
      rcases I k hk with h|h
      ·exact BL.aa k h
      ·exact .inr af
     obtain⟨Ao,co,rfl⟩:=G.slice;have bS:=G.blk;have hMl:=HM.aa;have mR:=S0.aa.size;have akQ:ji (λk=>M k∨bu p2 k) aW (nR B).2 _ wr:=G.Hg (λk hk=>by
      rcases hk with h|h
      ·exact .inl (.inl (.inl h))
      ·rcases I k h with h|h
       ·exact .inl (.inl (.inr h))
       ·exact .inl (.inr h)) (λk hk h=>by
        rcases h with h|h
        ·have:=hMl k h;have:=(bS k hk).1;have:=J1.aa.size;omega
        ·exact J9 k hk h)
     have hb2:bA (λk=>M k∨bu p2 k) p2 (nR B).1 wr:=D.less (λk hk=>.inr hk) λk hk=>by
      rcases hk with h|h
      ·exact .inl (.inl (.inl h))
      ·exact .inr h
     have hfin:=hb2.azX (akQ.fx ax);have u9:ag (bu p2) wr (wr.setCell ⟨p2.g,13,none⟩ (.slice Ao (nR B).2.length co)):=ag.bK (X:=bu p2) (.inl rfl) 13 _;have HF:Hid (∀W9,W9=wr.setCell ⟨p2.g,13,none⟩ (.slice Ao (nR B).2.length co)->bA (λk=>M k∨bu p2 k) { p2 with vw:=.slice Ao (nR B).2.length co } { (nR B).1 with waits:=(nR B).2 } W9):=ae λW9 e=>e▸hfin
     rw[kg E]at u9;have GZ:=ae (uf.gq u9 λk hk h=>(hX9 k h).resolve_right af);have HX9:=ae hX9;have akR:=ae E;have qg:=hb2.blk.cell;have zg:=hb2.blk.frozen;rw[kg E]at qg zg;clear D I J9 G bS hMl mR akQ hb2 hfin u9 uf hX9 E u Fb;go_wp2;first|go_end0|(rw[Exit.noGoto_normal];go_end0)|(simp only[Exit.noGoto];go_end0)
     refine⟨rfl,?_⟩;rw[JM.aa];have U:dE M ⟨g,gl,gd,gr,gt,vd,vr,vp,vh,.slice Al B.st.list.length cl,.slice Aq B.st.prom.length cq,.slice Aa B.st.ab.length ca,vt,jQ,.slice Aw B.waits.length cw,kr⟩ { (nR B).1 with waits:=(nR B).2 } W (wr.setCell ⟨g,13,none⟩ (.slice Ao (nR B).2.length co)):=⟨{ p2 with vw:=.slice Ao (nR B).2.length co },HF.aa _ (by rw[kg akR.aa]),GZ.aa,akR.aa,HX9.aa⟩;exact U.x8 S0.aa λk hk=>HM.aa k (xW.aa.sub k hk)
structure tD(M:Nat->Prop)(p:nE)(w w9:World)(o9:Value)(p2:nE)(B:bf)(l:List aT)(o:Value)(W:World):Prop where
 br:bA (λk=>(M k∨o.ownBlock=some k)∨bu p2 k) p2 B W
 uw:ag (bu p) w W
 u9:ag (λk=>bu p k∨o9.ownBlock=some k) w9 W
 key:p2.key=p.key
 new:∀k,bu p2 k->bu p k∨w9.heap.size<=k
 no:∀k,o.ownBlock=some k->¬bu p2 k
 S8:∀k,o.ownBlock=some k->o9.ownBlock=some k∨w9.heap.size<=k
 own:aC (λ_=>True) w.heap.size 26 bZ l o W
 hz:w.heap.size<=w9.heap.size
 low:∀k,bu p k->k<w.heap.size
 RD:∀k,M k->k<w.heap.size
section
variable {M:Nat->Prop} {p p2:nE} {w w9 W W':World} {o9 o:Value} {B B':bf} {l l':List aT}
theorem aC.aj1{Y base e}(h:aC Y base e bZ l o W):aC (λ_=>True) base e bZ l o W:=by obtain⟨css,j,u,t⟩:=h;exact⟨css,j,u,λ_ _=>t W (ag.rf _ _)⟩
theorem aC.akS{N base e}(h:aC (λ_=>True) base e bZ l o W)(u:ag N W W')(t:∀k,o.ownBlock=some k->¬N k):aC (λ_=>True) base e bZ l o W':=by obtain⟨css,j,y,C⟩:=h;exact⟨css,iN j u t,y,λA B=>C A ((u.more λ_ _=>.inl trivial).tr B)⟩
theorem tD.start(h:bA M p B w)(k:K w w9)(y:aC (λ_=>True) w.heap.size 26 bZ l o9 w9):tD M p w w9 o9 p B l o9 w9:=by
 have:=y.blk;have A:=λk hk=>h.low k (h.sub k hk)
 refine⟨h.far (X:=λ_=>False) (ag.aU k _) (λ_ h=>h.elim) (λ_ h=>h.elim) (λj t u=>?_) (λj t=>.inr t) (λj t=>?_),ag.aU k _,ag.rf _ _,rfl,λ_ h=>.inl h,λj t u=>aB,λ_ h=>.inl h,y,k.size,A,h.low⟩
 ·rcases u with (u|u)|u
  ·exact u
  ·grind
  ·exact h.sub j u
 ·rcases t with (t|t)|t
  ·exact bw (h.low j t) k.size
  ·grind
  ·exact bw (A j t) k.size
theorem tD.st(h:tD M p w w9 o9 p2 B l o W)(k:K W W'):tD M p w w9 o9 p2 B l o W' :=
 ⟨h.br.st k,h.uw.tr (ag.aU k _),h.u9.tr (ag.aU k _),h.key,h.new,h.no,h.S8,h.own.st k,h.hz,h.low,h.RD⟩
theorem tD.note(h:tD M p w w9 o9 p2 B l o W)(C:dE (λk=>(M k∨o.ownBlock=some k)∨bu p2 k) p2 B' W W'):∃p3,tD M p w w9 o9 p3 B' l o W':=by
 obtain⟨p3,A,u,hg,y⟩:=C;have:=h.u9.size;have:=h.hz;have:=h.own.blk;refine⟨p3,A.less (λk hk=>.inr hk) (λk hk=>hk.imp .inl λh=>h),h.uw.gq u λk hk t=>(h.new k t).resolve_right af,h.u9.gq u λk hk t=>(h.new k t).imp (λh=>h) λh=>af,hg.trans h.key,λk hk=>?_,λk hk t=>?_,h.S8,h.own.akS u λk hk=>h.no k hk,h.hz,h.low,h.RD⟩
 ·rcases y k hk with j|j
  ·exact h.new k j
  ·omega
 ·rcases y k t with j|j
  ·exact h.no k hk j
  ·grind
theorem tD.push(h:tD M p w w9 o9 p2 B l o W){o'}(y:aC (λ_=>True) w.heap.size 26 bZ l' o' W')(hg:W.grownBy W' o.ownBlock)(F:o'.ownBlock=o.ownBlock∨o'.ownBlock=some W.heap.size):tD M p w w9 o9 p2 B l' o' W':=by
 have u:=ag.eP hg λk e=>e
 have:=h.own.blk;have:=y.blk;have:=h.u9.size;have A:∀k,o'.ownBlock=some k->o.ownBlock=some k∨W.heap.size<=k:=λk hk=>by
  grind
 refine⟨h.br.far u (λk hk=>.inl (.inr hk)) (λk hk=>h.no k hk) (λk hk j=>?_) (λk hk=>.inr hk) (λk hk=>?_),h.uw.gq u λk hk j=>aB,h.u9.gq u λk hk j=>(h.S8 k j).elim .inr λh=>af,h.key,h.new,λk hk j=>?_,λk hk=>?_,y,h.hz,h.low,h.RD⟩
 ·grind
 ·rcases hk with (hk|hk)|hk
  ·exact bw (h.br.low k (.inl (.inl hk))) u.size
  ·grind
  ·exact bw (h.br.low k (.inr hk)) u.size
 ·rcases A k hk with t|t
  ·exact h.no k t j
  ·have:=h.br.low k (.inr j);omega
 ·rcases A k hk with t|t
  ·exact h.S8 k t
  ·omega
theorem tD.fin(h:tD M p w w9 o9 p2 B l o W):dE M p { B with refused:=l } w (W.setCell ⟨p.g,11,none⟩ o):=by
 have hg:=BH h.key;have y:=h.own.blk;have C:Fx (λk=>M k∨bu p2 k) (λW=>aq bZ l o W) W:=λW' u=>(h.own.akS u λk hk j=>by
  rcases j with j|j
  ·have:=(y k hk).1;have:=h.RD k j;omega
  ·exact h.no k hk j).aq
 have hb:bA (λk=>M k∨bu p2 k) p2 B W:=h.br.less (λk hk=>.inr hk) λk hk=>hk.imp .inl λh=>h
 have hp:=hb.azY C;rw[<- hg];have A:∀k,bu { p2 with vf:=o } k->bu p2 k:=λk hk=>hk
 refine⟨{ p2 with vf:=o },hp,h.uw.gq (ag.bK (X:=λk=>k=p2.g) rfl 11 o) λk hk e=>.inl (e.trans hg),h.key,λk hk=>?_⟩;rcases h.new k (A k hk)with t|t
 ·exact .inl t
 ·have:=h.hz;exact .inr af
end
def vT(told:List aT)(p:List aT×List aL)(x:aL):List aT×List aL:=if dG told (au x)then (p.1++[au x],p.2)else (p.1,p.2++[x])
theorem ayx B l:l.foldl (vT B.told) ([],[])=(sY B l,lY B l):=by
 have key:∀(l:List aL) (p:List aT×List aL),l.foldl (vT B.told) p=(p.1++sY B l,p.2++lY B l):=by
  intro l
  induction l with
  | nil=>intro p;simp[sY,lY]
  | cons x l j =>
   grind [vT,sY,lY,dG,au]
 simpa using key l ([],[])
theorem axn told:∀(l:List aL) (p:List aT×List aL),(l.foldl (vT told) p).1.length<=p.1.length+l.length/\(l.foldl (vT told) p).2.length<=p.2.length+l.length:=by
 intro l
 induction l with
 | nil=>intro p;simp
 | cons x l j =>
  grind [vT]
theorem ab3{s y}:∀ {l:List aL} {p:List aL×List aT},y∈(l.foldl (jB s) p).1->y∈p.1∨y∈l:=by
 intro l
 induction l with
 | nil=>intro p h;exact .inl h
 | cons x l j =>
  grind [jB]
theorem adR{B r}(h:(dB B r).2=false):(dB B r).1=B:=by
 grind [dB]
theorem aqx{p x}(h:bC p.1)(j:cE x):bC (iX p x).1:=by
 unfold iX;split
 ·exact Ig h ⟨QC,D3,j,QC,D3,D3⟩
 ·exact h
theorem ac5{l:List aL}:∀ {p:bf×List aT},bC p.1->(∀x∈l,cE x)->bC (l.foldl iX p).1/\(l.foldl iX p).2.length<=p.2.length+l.length:=by
 induction l with
 | nil=>intro p h _;exact⟨h,aj⟩
 | cons x l j =>
  grind [aqx,iX,eQ]
theorem aoj{M p B w}(h:bA M p B w)(hG:bC B) l va(hl:Fx M (λW=>aq aW l va W) w)(hok:∀x∈l,bH x=true/\cE x)(hlen:l.length<=16) :
 Calls prog 204 #[.pointer (some ⟨p.g,0,none⟩),va] w λe w'=>e=.returned (.tuple #[])/\dE M p (sR B l) w w':=by
 have HR:Hid (sR B l={ (rq B l).1 with refused:=(rq B l).2 }):=ae rfl
 have HPD:Hid (rq B l=(nJ B.st (lY B l)).1.foldl iX (B,sY B l++(nJ B.st (lY B l)).2)):=ae rfl
 have HME:=ae (ayx B l)
 have y7:=ae λj=>axn B.told (l.take j) ([],[])
 have kX:=ae hok
 have H:=ae h
 have HG:=ae hG
 have Q1:=ae λW (k:K w W) a=>(DN Rl underlying160 (Wv W) (h.wK.st k) a).1
 simp only[acV]at Q1
 have NQ:=IY hl.now
 have hs1:=av h.bF.now.list
 have fH:=av h.bF.now.prom
 have fR:=av h.bF.now.ab
 have hs4:=av h.bF.now.fB
 have CP:=ae λW (k:K w W) ml vm (hm:aq aW ml vm W) (I:∀x∈ml,ew x) (h2:ml.length<=500000)=>aoL B.st ml p.vl p.vq p.va vm W ⟨_,_,_,rfl,(h.bF.at k).list,(h.bF.at k).prom,(h.bF.at k).ab⟩ hm I ⟨Cb,Cb,Cb⟩ h2
 have q:=h.q
 generalize sR B l=R at *
 obtain⟨g,gl,gd,gr,gt,vd,vr,vp,vh,vl,vq,vab,vt,jQ,vw,kr⟩:=p
 simp only at q Q1 hs1 fH fR hs4 CP
 obtain⟨Al,cl,rfl⟩:=hs1
 obtain⟨Aq,cq,rfl⟩:=fH
 obtain⟨Ab,cb,rfl⟩:=fR
 obtain⟨Ar,cr,rfl⟩:=hs4
 obtain⟨A,c,rfl⟩:=NQ.slice
 have HLA:=ae NQ
 obtain⟨N7,YF⟩:∃n:Nat,Hid (n=0):=⟨0,ae rfl⟩
 have R3:ly N7 w.heap.size 26 bZ ([]:List aT) (.slice none 0 0) 126 aW ([]:List aL) (.slice none 0 0) w:=ly.Yj (aC.nil _ _ _ _ _) (by rw[YF.aa];exact eE _)
 have kk:=K.rf w
 go_in
 go_wp2_with fail
 go_loopw [5,6,8,9,10,19] (fun o1 o2 _ _ _ i W=>∃j:Nat,j<=l.length/\i=.int .i64 j/\ly N7 w.heap.size 26 bZ ((l.take j).foldl (vT B.told) ([],[])).1 o1 126 aW ((l.take j).foldl (vT B.told) ([],[])).2 o2 W/\K w W) (fun _ _ _ _ _ i _=>l.length-(intOf i).toNat)
 case atStart=>exact⟨0,af,rfl,by simpa using R3,kk⟩
 case round =>
  obtain⟨j,hj,rfl,G,Y⟩:=hrel;by_cases U:j<l.length
  ·have aO:(j:Int)<l.length:=af;obtain⟨b1,off,c1,cs1,T,dX,iD,hF,hcell⟩:=HLA.aa.at j U ax;injection T with T _ gu;subst T gu;have HF:=ae (fold_succ (vT B.told) l ([],[]) j U);have hpl:=y7.aa j;generalize l[j]=x at *;generalize (l.take j).foldl (vT B.told) ([],[])=P at *;obtain⟨E,ic⟩:∃E,Hid (E=(l.take (j+1)).foldl (vT B.told) ([],[])):=⟨_,ae rfl⟩;replace HF:Hid (E=vT B.told P x):=ae (ic.aa.trans HF.aa);have Jd:P.1.length<=500000:=LG;have Mx:P.2.length<=500000:=LG;obtain⟨P1,P2⟩:=P;simp only at G Jd Mx;have uM:ag (λk=>w.heap.size<=k) w wr:=ag.aU Y _;have rQ:=hcell wr uM;have S4:=ae hF;obtain⟨vf,Z,rfl,hf,he⟩:=hF wr uM;have q9:∀i,i<8->wr.cell? ⟨b1,off+j*8+i,none⟩=(aE x vf Z)[i]?:=λi hi=>(rQ i hi).trans Array.getElem?_toList
   have q0:wr.cell? ⟨b1,off+j*8,none⟩=some (.int .i64 x.kind):=q9 0 ax;have t:=ah.new wr 126 (aE x vf Z);have k3:=t.aS;obtain⟨Af,cf,rfl⟩:=b5 hf;obtain⟨Ae,ce,rfl⟩:=av he;obtain⟨A1,c1',rfl⟩:=G.a.slice;obtain⟨A3,c3,rfl⟩:=G.b.slice;go_upto_region 6 with fail;have NR:=G.st k3;have cO:=Y.tr k3;generalize wr.alloc _=w3 at *;have q8:=t.cells;have q1:=λW (k:K w3 W)=>q W (cO.tr k)
   obtain⟨vz,hvz⟩:∃vz,vz=(cT (pF B.told) (au x)).getD (.int .i64 0):=⟨_,rfl⟩;have ql:∀W,K w3 W->(Instr.lookup 160 (.map (some gt)) (.agg #[.int .i64 x.br,.int .u64 x.life,.int .u64 x.bY]) true).run prog W=.ok (.tuple #[vz,.bool (dG B.told (au x))]) W:=λW k=>by rw[hvz];exact Q1.aa W (cO.tr k) (au x)
   have qs:=And.intro q1 (And.intro q8 ql);refine dK 12 ?_;iterate 12 refine ar.i ?_
   intro V W kW hA;simp only[aN,aQ,b6,aJ,Nat.reduceAdd]at hA;refine aH.h ?_;have BK:=NR.st kW;have gW:=cO.tr kW;have cH:=t.ay kW;have L:=BK.a.blk;have eU:=BK.b.blk;generalize W=O at *;have q9:=cH.cell;cases ht:dG B.told (au x)
   ·have HP:Hid (E=(P1,P2++[x])):=ae aif;have mm:Fx (λk=>(k<N7∨(Value.slice A1 P1.length c1').ownBlock=some k)∨(Value.slice A3 P2.length c3).ownBlock=some k) (λW=>aW.rel x (Value.agg (aE x (.slice Af x.f.length cf) (.slice Ae x.es.length ce))).cells.toList W) O:=λW' u=>S4.aa W' ((ag.aU gW _).gq u λk hk h=>by
     rcases h with (h|h)|h
     ·have:=YF.aa;omega
     ·exact (L k h).1
     ·exact (eU k h).1)
    have hr:=ez.new (S:=aW) (e:=126) (v:=.agg (aE x (.slice Af x.f.length cf) (.slice Ae x.es.length ce))) mm 0 (eE _);have Q:=K.new O (.cells (aE x (.slice Af x.f.length cf) (.slice Ae x.es.length ce)) 126);have rP:=BK.st Q;have iR:=gW.tr Q;have oA:=iR.size;go_wp2_with (at_builtin;refine jz rfl _ _ 43 rfl _ 8 96 oZ rfl rfl rP.b _ rfl x ?p1 ?p2 ?p3 ?_)
    case p1=>exact hr
    case p2=>omega
    case p3=>simpa using oA
    exact WT
   ·have HP:Hid (E=(P1++[au x],P2)):=ae aif;have hr:=ez.new (S:=bZ) (e:=26) (x:=au x) (v:=.agg (dh (au x))) (w:=O) (N:=λk=>(k<N7∨(Value.slice A3 P2.length c3).ownBlock=some k)∨(Value.slice A1 P1.length c1').ownBlock=some k) (λW u=>rfl) 0 (eE _);have Q:=K.new O (.cells (dh (au x)) 26);have rP:=BK.st Q;have iR:=gW.tr Q;have oA:=iR.size;go_wp2_with (at_builtin;refine jz rfl _ _ 44 rfl _ 3 24 wu rfl rfl rP.a _ rfl (au x) ?p1 ?p2 ?p3 ?_)
    case p1=>exact hr
    case p2=>omega
    case p3=>simpa using oA
    exact aih
  ·have aO:¬(j:Int)<l.length:=af;obtain rfl:j=l.length:=af;rw[nc,HME.aa]at G;simp only at G;have vW:∀x∈lY B l,bH x=true/\cE x:=λx t=>kX.aa x (List.mem_filter.1 t).1
   have wh:(lY B l).length<=16:=bo (lQ _ _) hlen;have hrn:(sY B l).length<=16:=by unfold sY;rw[List.length_map];exact bo (lQ _ _) hlen
   have C2:=ae (CP.aa wr Y (lY B l) _ G.b.aq (λx t=>uK (vW x t).1) af);have Zm:∀y∈(nJ B.st (lY B l)).1,bH y=true/\cE y:=λy hy=>vW y ((ab3 hy).resolve_left aj)
   have hpn:=acw B.st (lY B l) ([],[]);have HPM:=ae Zm;obtain⟨A3,c3,e3⟩:=G.b.slice;have hTa:=G.a;have pN:=λk hk=>(G.b.blk k (e3▸hk)).2
   generalize sY B l=rB at *;generalize lY B l=mB at *;have N8:(nJ B.st mB).1.length<=16:=aii;have N9:(nJ B.st mB).2.length<=16:=aii;generalize nJ B.st mB=PV at *;obtain⟨D,PV2⟩:=PV;simp only at C2 HPD HPM N8 N9;have q1:=q wr Y;subst e3;obtain⟨A1,c1',rfl⟩:=hTa.slice;generalize wr=w5 at *;go_wp2_with fail
   refine C2.aa.mono ?_;rintro e w6⟨v1,v2,rfl,uD,k6⟩;have Ds:=hTa.st k6;have L:=hTa.blk;have rH:=Y.size;have aR:=uD.a.blk;have hb2:=uD.b.blk;have nD:ji (λk=>(k<N7∨(Value.slice A3 mB.length c3).ownBlock=some k)∨(Value.slice A1 rB.length c1').ownBlock=some k) bZ PV2 v2 w6:=uD.b.aj1.Hg (λ_ _=>.inl trivial) λk hk t=>by
    have I:=(hb2 k hk).1;rcases t with (t|t)|t
    ·have:=YF.aa;omega
    ·have:=Ds.slice;exact absurd I (by have:=pN k t;omega)
    ·have:=(L k t).2;omega
   have S9:=Y.tr k6;obtain⟨Av1,cv1,e1⟩:=uD.a.slice;have aAo:=uD.a;go_wp2_with (at_builtin;refine Uw rfl _ _ 44 rfl _ 3 24 wu rfl rfl Ds _ rfl nD ?p2 ?p3 ?_)
   case p2=>omega
   case p3=>exact S9.size
   intro v9 w9 bE cd eS bq;have k09:=S9.trans bq;have C:=tD.start H.aa k09 bE.aj1;have u19:=ag.eP cd λk e=>e
   have zM:=aAo.to (Y':=λk=>k<w5.heap.size∨w6.heap.size<=k) u19 (λk hk=>.inl (L k hk).2) (λk I h2=>by have:=(aR k I).1;have:=(L k h2).2;omega) (λk I hk=>hk.elim (λh=>.inl (.inl h)) λh=>af);have HV1:=ae (zM.Hg (N:=λk=>bu ⟨g,gl,gd,gr,gt,vd,vr,vp,vh,.slice Al B.st.list.length cl,.slice Aq B.st.prom.length cq,.slice Ab B.st.ab.length cb,vt,.slice Ar B.refused.length cr,vw,kr⟩ k∨v9.ownBlock=some k) (λk hk=>.inl (by
    rcases hk with hk|hk
    ·have:=C.low k hk;exact .inl af
    ·rcases eS with e|e
     ·exact .inl ((L k (e▸hk)).2)
     ·rw[e]at hk;injection hk with hk;exact .inr af)) λk I hk=>by
    have:=aR k I;rcases hk with hk|hk
    ·have:=C.low k hk;omega
    ·rcases eS with e|e
     ·have:=(L k (e▸hk)).2;omega
     ·rw[e]at hk;injection hk with hk;omega)
   subst e1;obtain⟨F,Ng⟩:∃F,Hid (F=rB++PV2):=⟨_,ae rfl⟩;rw[<- Ng.aa]at bE C;have hl9:F.length<=32:=by rw[Ng.aa];simp;omega
   have aAp:Hid (rq B l=D.foldl iX (B,F)):=ae (by rw[HPD.aa,Ng.aa]);obtain⟨A9,c9,rfl⟩:=bE.slice;obtain⟨P0,ET⟩:∃P0:nE,Hid (P0=⟨g,gl,gd,gr,gt,vd,vr,vp,vh,.slice Al B.st.list.length cl,.slice Aq B.st.prom.length cq,.slice Ab B.st.ab.length cb,vt,.slice Ar B.refused.length cr,vw,kr⟩):=⟨_,ae rfl⟩;rw[<- ET.aa]at C HV1;have Sz:Hid (P0.g=g):=ae (by rw[ET.aa]);go_wp2_with fail
   go_loopw [5,14,58] (fun o _ i W=>∃(j:Nat) (p2:nE),j<=D.length/\i=.int .i64 j/\tD M P0 w w9 (.slice A9 F.length c9) p2 ((D.take j).foldl iX (B,F)).1 ((D.take j).foldl iX (B,F)).2 o W) (fun _ _ i _=>D.length-(intOf i).toNat)
   case atStart=>exact⟨0,P0,af,rfl,by simpa using C⟩
   case round =>
    obtain⟨j,p2,hj,rfl,C⟩:=hrel;have kV:=(BH C.key).trans Sz.aa;have HP:=ae C;by_cases U:j<D.length
    ·have aO:(j:Int)<D.length:=af;obtain⟨b1,o1,c1,cs1,T,dX,iD,hF,hcell⟩:=HV1.aa.at j U ax;injection T with T _ gu;subst T gu;have HF:=ae (fold_succ iX D (B,F) j U);have hm:=HPM.aa _ (bT U);have wR:=ac5 (p:=(B,F)) HG.aa (l:=D.take j) λx t=>(HPM.aa x (nQ t)).2
     generalize D[j]=x at *;generalize (D.take j).foldl iX (B,F)=P at *;obtain⟨E,ic⟩:∃E,Hid (E=(D.take (j+1)).foldl iX (B,F)):=⟨_,ae rfl⟩;replace HF:Hid (E=iX P x):=ae (ic.aa.trans HF.aa);obtain⟨J,X⟩:=P;simp only at C HP wR;have hrl:X.length<=100:=by have:=wR.2;simp at this;omega
     have rQ:=hcell wr C.u9;obtain⟨vf,Z,rfl,hf,he⟩:=hF wr C.u9;have q9:∀i,i<8->wr.cell? ⟨b1,o1+j*8+i,none⟩=(aE x vf Z)[i]?:=λi hi=>(rQ i hi).trans Array.getElem?_toList
     have q0:wr.cell? ⟨b1,o1+j*8,none⟩=some (.int .i64 x.kind):=q9 0 ax;have t:=ah.new wr 126 (aE x vf Z);have k3:=t.aS;have zD:∀W,K wr W->pQ (ui x) (.agg (eY (ui x) vf Z)) W:=λW k=>⟨_,_,rfl,eu _ _ _ _ hf k,bj he k⟩
     obtain⟨Af,cf,rfl⟩:=b5 hf;obtain⟨Ae,ce,rfl⟩:=av he;have xO:=ae zD;obtain⟨Ao,co,rfl⟩:=C.own.slice;go_upto_region 16 with fail;have hP3:=C.st k3;generalize wr.alloc _=w3 at *;have hxe:¬bu p2 wr.heap.size:=λh=>by have:=C.br.low _ (.inr h);omega
     generalize Dp:wr.heap.size=gx at *;have q8:=t.cell;have C3:=ae (KE hP3.br wR.1 (ui x) _ (xO.aa w3 k3) ⟨QC,D3,hm.2,QC,D3,D3⟩ (uK hm.1));simp only[kV]at C3;have sD:Hid ((dB J (ui x)).2=false->(dB J (ui x)).1=J):=ae adR;have Kc:Hid (E=if (dB J (ui x)).2 then ((dB J (ui x)).1,X)else (J,X++[au x])):=ae HF.aa;generalize dB J (ui x)=NB at *;obtain⟨N1,N2⟩:=NB;simp only at C3 sD Kc;go_wp2_with fail
     apply aI C3.aa;intro O hN;obtain⟨p3,hP4⟩:=hP3.note hN;obtain⟨_,_,uN,_⟩:=hN;have cH:=t.aX uN hxe;cases N2
     ·have J9:=sD.aa rfl;subst J9;have HQ:Hid (E=(N1,X++[au x])):=ae (by rw[Kc.aa];rfl);have S7:=cH.cell;have hr:=ez.new (S:=bZ) (e:=26) (x:=au x) (v:=.agg (dh (au x))) (w:=O) (N:=λk=>True∨(Value.slice Ao X.length co).ownBlock=some k) (λW u=>rfl) 0 (eE _);have Q:=K.new O (.cells (dh (au x)) 26);have hP5:=hP4.st Q;have dm:=hP5.own;have rH:=hP5.uw.size;go_wp2_with (at_builtin;refine jz rfl _ _ 44 rfl _ 3 24 wu rfl rfl dm _ rfl (au x) ?p1 ?p2 ?p3 ?_)
      case p1=>exact hr.less λk _=>.inl trivial
      case p2=>omega
      case p3=>simpa using rH
      intro v9 wS bE cd eS bq;have E7:=hP5.push (bE.less λ_ _=>trivial) cd tO;go_wp2;go_roundw
      case rel=>exact⟨j+1,p3,af,bD,by rw[<- ic.aa,HQ.aa];exact E7⟩
      case measure=>simp[intOf];omega
     ·have HQ:Hid (E=(N1,X)):=ae (by rw[Kc.aa];rfl);go_wp2;go_roundw
      case rel=>exact⟨j+1,p3,af,bD,by rw[<- ic.aa,HQ.aa];exact hP4⟩
      case measure=>simp[intOf];omega
    ·have aO:¬(j:Int)<D.length:=af;obtain rfl:j=D.length:=af;rw[nc,<- aAp.aa]at C;have uC:=C.fin;rw[Sz.aa]at uC;obtain⟨Ao,co,e8⟩:=C.own.slice;have qg:=C.br.blk.cell;have zg:=C.br.blk.frozen;rw[kV]at qg zg;subst e8;have SE:=ae uC;rw[ET.aa]at SE;go_wp2;go_end0;refine⟨rfl,?_⟩;rw[HR.aa];exact SE.aa
theorem abL{M p B w}(h:bA M p B w)(hG:bC B) a(fa:dJ a) A D(hb:ah w A 90 #[.pointer (some ⟨p.g,0,none⟩)])(hn:ah w D 273 #[.func (.func 200) #[.pointer (some ⟨p.g,0,none⟩)] #[]]) :
 Calls prog 201 #[cA a,.pointer (some ⟨A,0,none⟩),.pointer (some ⟨D,0,none⟩)] w λe w'=>e=.returned (.tuple #[])/\dE M p (jq B a) w w':=by
 have N:Hid (jq B a=if bU B.st.prom a then (dB B (ju 5 a)).1 else B):=ae rfl
 have U:=λk hk=>h.low k (h.sub k hk)
 have t:=ah.new w 26 (dh a)
 have j:=t.aS
 have F:=hb.ay j
 have L:=hn.ay j
 have H:=ae h
 have Y:=ae U
 have O:=ae λW (k:K w W)=>Ku B.st a (.agg (cJ B.st p.vl p.vq p.va)) W ⟨_,_,_,rfl,(h.bF.at k).list,(h.bF.at k).prom,(h.bF.at k).ab⟩ Cb
 have S:∀W,pQ (ju 5 a) (.agg (eY (ju 5 a) (.slice none 0 0) (.slice none 0 0))) W:=λW=>⟨_,_,rfl,⟨none,0,rfl,Reads.nil _ _ _ _⟩,gy _ _⟩
 have Q:=ae λW (k:K w W)=>KE (h.st k) hG (ju 5 a) _ (S W) (Vp po fa) ⟨by simp[ju,dC],by simp[ju,dC],by simp[ju,dC]⟩
 have J:=av h.bF.now.list
 have E:=av h.bF.now.prom
 have G:=av h.bF.now.ab
 have q:=h.q
 generalize jq B a=R at *
 obtain⟨g,gl,gd,gr,gt,vd,vr,vp,vh,vl,vq,va,vt,vf,vw,kr⟩:=p
 simp only at q O Q J E G F L
 obtain⟨Al,cl,rfl⟩:=J
 obtain⟨Ap,cp,rfl⟩:=E
 obtain⟨Aa,ca,rfl⟩:=G
 go_in
 go_upto_region 1 with fail
 generalize w.alloc _=T at *
 generalize w.heap.size=ga at t⊢
 have y:=t.cells
 have I:=F.cells
 have C:=λW (k:K T W)=>q W (j.tr k)
 have qs:=And.intro C (And.intro y I)
 refine dK 6 ?_
 iterate 5 refine ar.i ?_
 refine ar.is (.bool (bU B.st.prom a)) (λV W kW hp=>?_) ?_
 ·(try simp only[cz,aN,aQ,bV,bW,aJ]at hp)
  simp[bO,aF,List.lookup,hp,cU,execOp,aG,aJ,C,y,I,go_sem];apply aI (O.aa W (j.tr kW));intro w4 k4;grind
 intro V W kW hA
 simp only[aN,aQ,b6,aJ,Nat.reduceAdd]at hA
 refine aH.h ?_
 have u:=j.tr kW
 have:=y W kW
 have:=L.cells W kW
 generalize W=Z at *
 cases hp:bU B.st.prom a
 ·have HF:Hid (R=B):=ae (by rw[N.aa,hp];rfl);have HN:=ae (H.aa.n u);go_wp2;go_end0;exact W6
 ·have HF:Hid (R=(dB B (ju 5 a)).1):=ae (by rw[N.aa,hp];rfl);have X:=ae (Q.aa Z u);go_wp2_with fail
  apply aI X.aa;intro w3 hN;have HN:=ae (hN.x8 u Y.aa);go_wp2;go_end0;exact W6
theorem Vq{α}[DecidableEq α]{k}:∀ {ak:List (α×Value)} {i:Nat},(∀p∈ak,p.1≠k)->fW k ak i=none
 | [],_,_=>rfl
 | p :: r,i,h=>by unfold fW;have j:=h p aj;simp only[j,if_false];exact Vq λq t=>h q (by simp[t])
theorem ar4{l a}(h:dG l a=false):r7 (pF l) a (.int .i64 l.length)=pF (l++[a]):=by
 grind [pF,List.fst_mem_of_mem_zipIdx,dG,r7,Vq]
theorem bA.tell{M p B w w'}(h:bA M p B w){a}(hm:dM lW w' p.gt (pF (B.told++[a])))(hg:w.grownBy w' (some p.gt)):bA M p { B with told:=B.told++[a] } w':=by
 obtain⟨F,y,D,E,t⟩:=h.apart;have u:ag (λk=>k=p.gt) w w':=ag.eP hg λk e=>aB
 have A:=u.more λk hk=>h.sub k (hk ▸ .inr (.inr (.inl rfl)))
 refine⟨h.blk.aX u y,h.lg.aX u λk hk e=>t (e▸hk),h.rep.aX u h.ne,hm,λW C=>?_,h.sub,λk hk=>bw (h.low k hk) u.size,h.ne⟩;have j:=h.bF W (A.tr C);exact⟨j.par,j.ai,j.list,j.prom,j.ab,j.aA,j.fB,j.waits,j.bI⟩
theorem avQ{M p B w}(h:bA M p B w){a}(y:dG B.told a=false) :
 ∃w',(Instr.mapUpdate 160 (.map (some p.gt)) (.agg (dh a)) (.int .i64 B.told.length)).run prog w=.ok () w'/\bA M p { B with told:=B.told++[a] } w'/\ag (λk=>k=p.gt) w w':=by
 obtain⟨w',u,t,j⟩:=FC Rl underlying160 h.wK a (.int .i64 B.told.length)
 rw[ar4 y]at t
 exact⟨w',u,h.tell t j,ag.eP j λk e=>aB⟩
theorem dM.len{α enc P w b}{ak:List (α×Value)}(h:dM enc w b ak){t ty k e}(y:P.underlying t=some (.map k e)):(Builtin.len_ #[t] ty #[.map (some b)]).run P w=.ok (.int .i64 ak.length) w:=by
 obtain⟨es,c,u,A,-⟩:=h;have j:P.underlying t=some (.map (P.mapKeyOf t) (P.mapElemOf t)):=by unfold Program.mapKeyOf Program.mapElemOf;rw[y]
 have:=congrArg List.length A;simp only[List.length_map,Array.length_toList]at this;rw[run_len_map w t ty b es c j u,this];rfl
theorem bA.axo{M p B w}(h:bA M p B w):∀W,K w W->∀ty,(Builtin.len_ #[160] ty #[.map (some p.gt)]).run prog W=.ok (.int .i64 B.told.length) W:=λW k ty=>by have:=(h.wK.st k).len (ty:=ty) underlying160;rw[this];simp[pF]
@[local go_sem] theorem aE9 {P:Program} {w:World} (a:Addr) (m:Mode) (f:Fn) (bs cs:Array Value):(store a (.func f bs cs) m).run P w=stored P w a (.func f bs cs) m:=run_store P w a _ m rfl
theorem aij:∀(x:aT) (cs:List Value) (W:World),bZ.rel x cs W->cs[0]?≠some (.bool true):=λx cs W h=>by have:cs=fG x:=h;rw[this];simp
theorem ar5{B n j}{l:List aL}(h:j<l.length):lS B ((n+j)%18446744073709551616) (l.drop j)=if (n+j)%18446744073709551616=B.st.list.length then (if (dB B (mF ((n+j)%18446744073709551616) l[j])).2 then lS (dB B (mF ((n+j)%18446744073709551616) l[j])).1 ((n+(j+1))%18446744073709551616) (l.drop (j+1))else B)else lS B ((n+(j+1))%18446744073709551616) (l.drop (j+1)):=by
 have e:((n+j)%18446744073709551616+1)%18446744073709551616=(n+(j+1))%18446744073709551616:=af;rw[List.drop_eq_getElem_cons h];conv=>lhs;unfold lS
 rw[e]
theorem ayy(n:Nat):IntKind.u64.wrap (n:Int)=((n%18446744073709551616:Nat):Int):=by rfl
theorem QD{m}(h:dI m=true)(j:nX m):(∀x∈m.entries,bH x=true/\cE x)/\m.entries.length<=16/\(∀x∈m.eD,bH x=true/\cE x)/\m.eD.length<=16/\(∀a∈m.dF,dJ a)/\m.dF.length<=16/\(∀a∈m.ends,dJ a)/\m.ends.length<=16/\m.got<18446744073709551616:=by
 grind [dI,nX,bH,cE,dJ,jZ]
theorem Pe:∀ {l:List aL} {B:bf} {n:Nat},bC B->n<18446744073709551616->(∀x∈l,cE x)->bC (lS B n l)
 | [],B,n,h,_,_=>h
 | x :: l,B,n,h,hn,hl=>by
  unfold lS;have j:=Ig h (PF hn (hl x aj));have hm:(n+1)%18446744073709551616<18446744073709551616:=Nat.mod_lt _ ax;split
  ·split
   ·exact Pe j hm λy hy=>hl y IE
   ·exact h
  ·exact Pe h hm λy hy=>hl y IE
theorem OS{B a}(h:bC B)(j:dJ a):bC (jq B a)/\(jq B a).told=B.told:=by
 unfold jq;split
 ·exact⟨Ig h (Vp po j),(Ft DY).told⟩
 ·grind
theorem UH{B a}(h:bC B)(hl:B.told.length+1<=1000000):bC { B with told:=B.told++[a],aA:=fE B.aA a } :=
 ⟨h.tr,h.me,h.hm,h.dk,h.tx.settle _,h.calls,h.bI,Ww,h.fB,h.waits,h.y5⟩
theorem Pf:∀ {l:List aL} {B:bf} {n:Nat},(lS B n l).told=B.told
 | [],B,n=>rfl
 | x :: l,B,n=>by
  unfold lS;split
  ·split
   ·exact Pf.trans (Ft AE).told
   ·rfl
  ·exact Pf
theorem aqy{M p B w}(h:bA M p B w)(hG:bC B) m v1 v2 v3 v4 v5 v6(h1:aq ou m.cG v1 w)(h2:aq aW m.asks v2 w)(h3:Fx M (λW=>aq aW m.entries v3 W) w)(h4:Fx M (λW=>aq aW m.eD v4 W) w)(h5:Fx M (λW=>aq bZ m.dF v5 W) w)(h6:Fx M (λW=>aq bZ m.ends v6 W) w)
 (hok:dI m=true) (hfit:nX m) (im:B.told.length+m.dF.length<=1000000) :
 Calls prog 114 #[.pointer (some ⟨p.g,0,none⟩),.agg (kj m v1 v2 v3 v4 v5 v6)] w λe w'=>e=.returned (.tuple #[])/\dE M p (qh B m) w w':=by
 have HR:Hid (qh B m=sR (m.ends.foldl jq (m.dF.foldl ni (lS B m.got m.entries))) m.eD):=ae rfl
 have HL3:=ae (Fx.fix h3 ax Q3)
 have tB:=ae (Fx.fix h5 ax aij)
 have HL6:=ae (Fx.fix h6 ax aij)
 have H4:=ae h4
 have H:=ae h
 have HG:=ae hG
 have hlo:=λk hk=>h.low k (h.sub k hk)
 have wj:=ae hlo
 have kX:=ae hok
 have HTL:=ae im
 have yZ:=ae hfit
 have hs4:=av h4.now
 obtain⟨A1,c1,rfl⟩:=av h1
 obtain⟨A2,c2,rfl⟩:=av h2
 obtain⟨A3,c3,rfl⟩:=av h3.now
 obtain⟨A4,c4,rfl⟩:=hs4
 obtain⟨A5,c5,rfl⟩:=av h5.now
 obtain⟨A6,c6,rfl⟩:=av h6.now
 generalize qh B m=R at *
 obtain⟨g,hg⟩:∃g,Hid (g=p.g):=⟨_,ae rfl⟩
 rw[<- hg.aa]
 generalize ZX:kj m (.slice A1 m.cG.length c1) (.slice A2 m.asks.length c2) (.slice A3 m.entries.length c3) (.slice A4 m.eD.length c4) (.slice A5 m.dF.length c5) (.slice A6 m.ends.length c6)=ma at *
 have k1:=K.kK w (.cells #[.pointer (some ⟨g,0,none⟩)] 90) (.cells ma 156)
 have hb:=(ah.new w 90 #[.pointer (some ⟨g,0,none⟩)]).alloc (.cells ma 156)
 have hc:=ah.new (w.alloc (.cells #[.pointer (some ⟨g,0,none⟩)] 90)) 156 ma
 have hz1:(w.alloc (.cells #[.pointer (some ⟨g,0,none⟩)] 90)).heap.size=w.heap.size+1:=aj
 rw[hz1]at hc
 subst ZX
 go_in
 go_upto_region 1 with fail
 generalize World.alloc (World.alloc w _) _=w1 at *
 generalize nF:w.heap.size=lo at hb hc⊢
 have lL:=ae nF
 have qb:=hb.cells
 have qc:=hc.cells
 have:=qb w1 (K.rf _)
 have hd:=ah.new w1 273 #[.func (.func 200) #[.pointer (some ⟨g,0,none⟩)] #[]]
 go_step3
 go_wp2_with fail
 have k2:=K.new w1 (.cells #[.func (.func 200) #[.pointer (some ⟨g,0,none⟩)] #[]] 273)
 have hb2:=hb.ay k2
 have ik:=hc.ay k2
 have hz1:=hc.lt
 generalize World.alloc w1 _=J at *
 generalize hgd:w1.heap.size=gd at hd hz1⊢
 have HGD:=ae hgd
 have bB:=k1.tr k2
 have hnX:∀k,lo<=k->¬bu p k:=λk hk F=>by have:=wj.aa k F;have:=lL.aa;omega
 have D:=ae hnX
 have BC:=H.aa.st bB
 have Bo:Hid (∀W,ag (bu p) J W->ag M w W):=ae λW u=>(ag.aU bB M).tr (u.more λk hk=>H.aa.sub k hk)
 have:=ik.cells J (K.rf _)
 go_step3
 go_upto_block 0 with fail
 obtain⟨xI,wi,N8,N9,pR,sy,Oa,Ob,RE⟩:=QD kX.aa yZ.aa
 have Ke:=ae (Pe HG.aa RE λx F=>(xI x F).2)
 obtain⟨L,hBE⟩:∃L,Hid (L=lS B m.got m.entries):=⟨_,ae rfl⟩
 rw[<- hBE.aa]at HR Ke
 have HE1:=ae xI
 have wI:=ae N8
 have Hj:=ae pR
 have zt:=ae Oa
 have CI:=BC.now rfl (λk hk=>.inl hk) (ag.rf _ J)
 go_cut [5,6,7]from 18 to 43 (fun _ _ _ W=>dE M p L J W)
 case first =>
  go_wp2_with fail
  go_loopw [5,6,7,18] (fun _ _ _ i W=>∃(j:Nat) (t:bf),j<=m.entries.length/\i=.int .i64 j/\dE M p t J W/\bC t/\L=lS t ((m.got+j)%18446744073709551616) (m.entries.drop j)) (fun _ _ _ i _=>m.entries.length-(intOf i).toNat)
  case atStart=>exact⟨0,B,af,rfl,CI,HG.aa,by rw[hBE.aa,List.drop_zero,Nat.add_zero,Nat.mod_eq_of_lt RE]⟩
  case round =>
   obtain⟨j,t,hj,rfl,hN,A,Oc⟩:=hrel;obtain⟨p2,O,y,E,G⟩:=hN;have Q:=(BH E).trans hg.aa.symm;by_cases hlt:j<m.entries.length
   ·have aO:(j:Int)<m.entries.length:=af;obtain⟨b1,Y,c1',cs1,N,dX,iD,hF,hcell⟩:=HL3.aa.at j hlt ax;injection N with N _ gu;subst N gu;have HST:=ae (Oc.trans (ar5 hlt));have S:=HE1.aa _ (bT hlt);have:=bw hlt wi;generalize m.entries[j]=x at *;have hcw:=hcell wr (Bo.aa wr y);obtain⟨vf,ve,rfl,hf,he⟩:=hF wr (Bo.aa wr y);have q9:∀i,i<8->wr.cell? ⟨b1,Y+j*8+i,none⟩=(aE x vf ve)[i]?:=λi hi=>(hcw i hi).trans Array.getElem?_toList
    have q0:wr.cell? ⟨b1,Y+j*8,none⟩=some (.int .i64 x.kind):=q9 0 ax;obtain⟨Af,cf,rfl⟩:=b5 hf;obtain⟨Ae,ce,rfl⟩:=av he;have F:=ah.new wr 126 (aE x (.slice Af x.f.length cf) (.slice Ae x.es.length ce));have U:=F.aS;have zD:∀n W,K wr W->pQ (mF n x) (.agg (eY (mF n x) (.slice Af x.f.length cf) (.slice Ae x.es.length ce))) W:=λn W k=>⟨_,_,rfl,eu _ _ _ _ hf k,bj he k⟩
    have xO:=ae zD;go_upto_region 5 with fail;have I:=O.st U;have C:=y.tr (ag.aU U _);generalize World.alloc wr _=w3 at *;generalize Dp:wr.heap.size=gx at *;have bP:=hb2.aX C (D.aa lo (aD _));have oD:=ik.aX C (D.aa (lo+1) af);have hd3:=hd.aX C (D.aa gd af);have qb:=bP.cell;have qc:=oD.cell;have:=hd3.cell;have qx:=F.cell;have:=A.dk.len;have:IntKind.u64.wrap (j:Int)=j:=aik;have:IntKind.u64.wrap ((m.got:Int)+j)=(((m.got+j)%18446744073709551616:Nat):Int):=cC;generalize hn:(m.got+j)%18446744073709551616=n at *;have Js:n<18446744073709551616:=af;have:IntKind.u64.wrap (t.st.list.length:Int)=t.st.list.length:=aik;have:=ae O;have HV3:=ae I;have aj2:=ae λ(e:n=t.st.list.length) W (k:K w3 W)=>KE (I.st k) A (mF n x) _ (xO.aa n W (U.tr k)) (PF Js S.2) (uK S.1)
    have qB:=I.blk.cell;obtain⟨Al,cl,el⟩:=av I.bF.now.list;have aAq:=S.2;have HN3:=ae (show dE M p t J w3 from ⟨p2,I,C,E,G⟩);have T:=ae E;obtain⟨g',gl,gd',gr,gt,vd,vr,vp,vh,vl,vq,va,vt,jQ,vw,kr⟩:=p2;simp only at Q qB el aj2 T;subst Q;subst el;have HG2:=ae (Ig A (PF Js aAq));have sD:Hid ((dB t (mF n x)).2=false->(dB t (mF n x)).1=t):=ae adR;by_cases hnl:n=t.st.list.length
    ·have HC:=ae (aj2.aa hnl w3 (K.rf _));have ME:=ae (HST.aa.trans (if_pos hnl));have HNN:=ae hnl;generalize dB t (mF n x)=NB at *;obtain⟨N1,N2⟩:=NB;simp only at HC ME HG2 sD;go_wp2_with fail
     rw[HNN.aa]at HC;apply aI HC.aa;intro w4 Fa;have uI:=ae (dE.tr C T.aa G (λ_ h=>.inl h) Fa);cases N2
     ·have e1:=sD.aa rfl;subst e1;have HF:Hid (L=N1):=ae (by rw[ME.aa];rfl);go_wp2;go_meet;rw[HF.aa];exact uI.aa
     ·have HF:Hid (L=lS N1 ((m.got+(j+1))%18446744073709551616) (m.entries.drop (j+1))):=ae (by rw[ME.aa];rfl);go_wp2;go_roundw
      case rel=>exact⟨j+1,N1,af,bD,uI.aa,HG2.aa,HF.aa⟩
      case measure=>simp[intOf];omega
    ·have ME:=ae (HST.aa.trans (if_neg hnl));go_wp2;go_roundw
     case rel=>exact⟨j+1,t,af,bD,HN3.aa,A,ME.aa⟩
     case measure=>simp[intOf];omega
   ·obtain rfl:j=m.entries.length:=af;have aO:¬(m.entries.length:Int)<m.entries.length:=af;have HF:Hid (L=t):=ae (by rw[Oc,List.drop_length];rfl);have uI:=ae (show dE M p t J wr from ⟨p2,O,y,E,G⟩);go_wp2;go_meet;rw[HF.aa];exact uI.aa
 generalize wc=w3 at *
 have HTB:Hid (L.told.length+m.dF.length<=1000000):=ae (by rw[hBE.aa,Pf];exact HTL.aa)
 obtain⟨Z,hBA⟩:∃Z,Hid (Z=m.dF.foldl ni L):=⟨_,ae rfl⟩
 rw[<- hBA.aa]at HR
 have zS:=ae hcut
 obtain⟨_,_,C,_⟩:=hcut
 have oD:=ik.aX C (D.aa (lo+1) af)
 have qc:=oD.cell
 go_upto_block 2 with fail
 go_wp2_with fail
 go_loopw [10,48] (fun _ i W=>∃(j:Nat) (t:bf),j<=m.dF.length/\i=.int .i64 j/\dE M p t J W/\bC t/\t.told.length<=L.told.length+j/\Z=(m.dF.drop j).foldl ni t) (fun _ i _=>m.dF.length-(intOf i).toNat)
 case atStart=>exact⟨0,L,af,rfl,zS.aa,Ke.aa,af,fk⟩
 case round =>
  obtain⟨j,t,hj,rfl,hN,A,htj,Oc⟩:=hrel;obtain⟨p2,O,y,E,G⟩:=hN;have Q:=(BH E).trans hg.aa.symm;by_cases hlt:j<m.dF.length
  ·have aO:(j:Int)<m.dF.length:=af;obtain⟨b1,Y,c1',cs1,N,dX,iD,hF,hcell⟩:=tB.aa.at j hlt ax;injection N with N _ gu;subst N gu;have HST:Hid (Z=(m.dF.drop (j+1)).foldl ni (ni t m.dF[j])):=ae ail;have S:=Hj.aa _ (bT hlt);have im:t.told.length+1<=1000000:=by have:=HTB.aa;omega
   generalize m.dF[j]=a at *;have hcw:=hcell wr (Bo.aa wr y);have hcs:cs1=fG a:=hF wr (Bo.aa wr y);have q9:∀i,i<3->wr.cell? ⟨b1,Y+j*3+i,none⟩=(dh a)[i]?:=λi hi=>(hcw i hi).trans (by rw[hcs];exact Array.getElem?_toList)
   have q0:wr.cell? ⟨b1,Y+j*3,none⟩=some (.int .i64 a.1):=q9 0 ax;have F:=ah.new wr 26 (dh a);have U:=F.aS;go_upto_region 13 with fail;have I:=O.st U;have C:=y.tr (ag.aU U _);have hpx:=λk hk=>O.low k (.inr hk)
   have s7:∀ {k},k=lo∨k=gd∨k=wr.heap.size->¬bu p2 k:=λ{k} e hk=>by
    have h1:=hb2.lt;have h2:=hd.lt;have h3:=HGD.aa;have h4:=hpx k hk;rcases G k hk with h|h
    ·rcases e with e|e|e
     ·exact D.aa k af h
     ·exact D.aa k af h
     ·omega
    ·omega
   generalize World.alloc wr _=w3 at *;generalize Dp:wr.heap.size=gx at *;have bP:=hb2.aX C (D.aa lo (aD _));have hd3:=hd.aX C (D.aa gd af);have qb:=bP.cell;have qx:=F.cell;have HN3:=ae (show dE M p t J w3 from ⟨p2,I,C,E,G⟩);have T:=ae E;have HV3:=ae I;have C3:=T7 I A a;have Ta:=ae (OS (UH (a:=a) A im) S);have aAr:=ae im;have HX1:=ae S;have HOA:Hid (ni t a=if tJ t a then t else jq { t with told:=t.told++[a],aA:=fE t.aA a } a):=ae rfl;rw[Q]at C3;generalize ni t a=BO at *;go_wp2_with fail
   apply aI C3;intro w4 k4;cases hab:tJ t a
   ·have Ni:Hid (BO=jq { t with told:=t.told++[a],aA:=fE t.aA a } a):=ae aim;have hnt:dG t.told a=false:=by unfold tJ at hab;simp only[Bool.or_eq_false_iff]at hab;exact hab.1
    have Kf:=HV3.aa.st k4;have Zr:=C.tr (ag.aU k4 _);have HV4:=ae Kf;have HNT:=ae hnt;have HU4:=ae Zr;have BM:=bP.ay k4;have qx4:=F.ay k4;have qt4:=Kf.axo;have qd4:=hd3.ay k4;have zP:Hid (∀ {k},k=lo∨k=gd∨k=gx->¬bu p2 k):=ae s7;have y4:=ae G;have qB4:=Kf.q;have q1:=BM.cells;have q2:=qx4.cells;obtain⟨g',gl,gd',gr,gt,vd,vr,vp,vh,vl,vq,va,vt,jQ,vw,kr⟩:=p2;simp only at Q qB4 qt4 T;subst Q;go_wp2_with fail
    have qs:=And.intro q1 (And.intro q2 (And.intro qB4 qt4));refine dK 10 ?_;iterate 10 refine ar.i ?_
    intro V W kW hA;simp only[aN,aQ,b6,aJ,Nat.reduceAdd]at hA;obtain⟨d0,d1,d2,d3,d4,d5,d6,d7,d8,d9,-⟩:=hA;obtain⟨w5,iL,Tb,Fc⟩:=avQ (HV4.aa.st kW) HNT.aa;simp only at iL;refine aH.skip w5 rfl (by simp[aF,List.lookup,d0,d1,d2,d3,d4,d5,d6,d7,d8,d9,execOp,aG,iL,go_sem]) ?_;refine aH.e ?_;have mj:=(BM.ay kW).aX Fc λe=>zP.aa (.inl rfl) (e ▸ .inr (.inr (.inl rfl)))
    have Dj:=(qx4.ay kW).aX Fc λe=>zP.aa (.inr (.inr rfl)) (e ▸ .inr (.inr (.inl rfl)))
    have hdW:=(qd4.ay kW).aX Fc λe=>zP.aa (.inr (.inl rfl)) (e ▸ .inr (.inr (.inl rfl)))
    have HU5:=ae ((HU4.aa.tr (ag.aU kW _)).gq Fc λk _ e=>(y4.aa k (e ▸ .inr (.inr (.inl rfl)))).resolve_right af);have Kg:=ae Tb;have C5:=ae λW (k:K w5 W)=>Pd t.aA a vt W (Tb.bF.at k).aA A.tx.small A.tx.y6
    have hs4:=av Tb.bF.now.aA;have q2:=Tb.q;have qb:=mj.cells;have qx:=Dj.cells;simp only at q2 C5 hs4;obtain⟨At,ct,rfl⟩:=hs4;go_wp2_with fail
    have qs:=And.intro q2 (And.intro qb qx);refine dK 7 ?_;iterate 6 refine ar.i ?_
    refine ar.op (λv W'=>aV w5.heap.size w5.heap.size 128 cW (fE t.aA a) v W') (λ_ _ _ h k=>h.st k) (λV W kW hp=>?_) ?_
    ·(try simp only[cz,aN,aQ,bV,bW,aJ]at hp)
     simp[bO,aF,List.lookup,hp,cU,execOp,aG,q2,qb,qx,go_sem];apply bN (C5.aa W kW);rintro v4 w4⟨hO,k4⟩;exact ain
    intro V W kW hA;simp only[aN,aQ,b6,aJ,Nat.reduceAdd]at hA;obtain⟨d0,d1,d2,d3,d4,d5,iU,-⟩:=hA;generalize Hd:V 6=v8 at *;have tz:=Kg.aa.st kW;have jg:=iU.JP Kg.aa.low;obtain⟨A8,c8,rfl⟩:=av iU.aq;have q8:=tz.blk.cell;have z8:=tz.blk.frozen;simp only at q8 z8;iterate 2 (apply aH.pure;rfl;(simp[aF,List.lookup,ba,d0,Hd,execOp,aG,go_sem];rfl))
    refine aH.skip (W.setCell ⟨g',8,none⟩ (.slice A8 (fE t.aA a).length c8)) rfl WG ?_;refine aH.e ?_;have E7:=tz.Ms jg;have uS:ag (λk=>k=g') W (W.setCell ⟨g',8,none⟩ (.slice A8 (fE t.aA a).length c8)):=ag.bK (X:=λk=>k=g') rfl 8 _;have bq:=(mj.ay kW).aX uS λe=>zP.aa (.inl rfl) (.inl e)
    have pg:=(Dj.ay kW).aX uS λe=>zP.aa (.inr (.inr rfl)) (.inl e)
    have xR:=(hdW.ay kW).aX uS λe=>zP.aa (.inr (.inl rfl)) (.inl e)
    have GZ:=ae ((HU5.aa.tr (ag.aU kW _)).gq uS λk _ e=>(y4.aa k (.inl e)).resolve_right af);have C7:=ae (abL E7 (UH (a:=a) A aAr.aa) a HX1.aa lo gd bq xR);have q9:=pg.cell;generalize World.setCell _ _ _=w6 at *;go_wp2_with fail
    apply aI C7.aa;intro w7 hN7;have HN7:=ae (dE.tr GZ.aa T.aa y4.aa (λ_ h=>.inl h) hN7);go_wp2;go_roundw
    case rel=>exact⟨j+1,BO,af,bD,by rw[Ni.aa];exact HN7.aa,by rw[Ni.aa];exact Ta.aa.1,by rw[Ni.aa,Ta.aa.2];simp;omega,HST.aa⟩
    case measure=>simp[intOf];omega
   ·have HF:Hid (BO=t):=ae aim;have uI:=ae (HN3.aa.k k4);go_wp2;go_roundw
    case rel=>exact⟨j+1,t,af,bD,uI.aa,A,af,by rw[HST.aa,HF.aa]⟩
    case measure=>simp[intOf];omega
  ·obtain rfl:j=m.dF.length:=af;have aO:¬(m.dF.length:Int)<m.dF.length:=af;obtain rfl:Z=t:=aB;have Fa:dE M p Z J wr:=⟨p2,O,y,E,G⟩;obtain⟨BD,hBD⟩:∃BD,Hid (BD=m.ends.foldl jq Z):=⟨_,ae rfl⟩;rw[<- hBD.aa]at HR;have oD:=ik.aX y (D.aa (lo+1) af);have qc:=oD.cell;have uI:=ae Fa;have aAs:=ae A;generalize wr=w3 at *;go_wp2_with fail
   go_loopw [12,81] (fun _ i W=>∃(j:Nat) (t:bf),j<=m.ends.length/\i=.int .i64 j/\dE M p t J W/\bC t/\BD=(m.ends.drop j).foldl jq t) (fun _ i _=>m.ends.length-(intOf i).toNat)
   case atStart=>exact⟨0,Z,af,rfl,uI.aa,aAs.aa,fk⟩
   case round =>
    obtain⟨j,t,hj,rfl,hN,A,Oc⟩:=hrel;obtain⟨p2,O,y,E,G⟩:=hN;have Q:=(BH E).trans hg.aa.symm;by_cases hlt:j<m.ends.length
    ·have aO:(j:Int)<m.ends.length:=af;obtain⟨b1,Y,c1',cs1,N,dX,iD,hF,hcell⟩:=HL6.aa.at j hlt ax;injection N with N _ gu;subst N gu;have HST:Hid (BD=(m.ends.drop (j+1)).foldl jq (jq t m.ends[j])):=ae ail;have S:=zt.aa _ (bT hlt);generalize m.ends[j]=a at *;have hcw:=hcell wr (Bo.aa wr y);have hcs:cs1=fG a:=hF wr (Bo.aa wr y);have q9:∀i,i<3->wr.cell? ⟨b1,Y+j*3+i,none⟩=(dh a)[i]?:=λi hi=>(hcw i hi).trans (by rw[hcs];exact Array.getElem?_toList)
     have q0:wr.cell? ⟨b1,Y+j*3,none⟩=some (.int .i64 a.1):=q9 0 ax;have F:=ah.new wr 26 (dh a);have U:=F.aS;go_upto_region 21 with fail;have I:=O.st U;have C:=y.tr (ag.aU U _);generalize World.alloc wr _=w3 at *;generalize Dp:wr.heap.size=gx at *;have bP:=hb2.aX C (D.aa lo (aD _));have hd3:=hd.aX C (D.aa gd af);have qx:=F.cell;have C3:=ae (abL I A a S lo gd (by rw[Q];exact bP) (by rw[Q];exact hd3));have Ta:=ae (OS A S);have BN:=ae C;have T:=ae E;have y4:=ae G;generalize jq t a=BO at *;go_wp2_with fail
     apply aI C3.aa;intro w4 hN5;have HN5:=ae (dE.tr BN.aa T.aa y4.aa (λ_ h=>.inl h) hN5);go_wp2;go_roundw
     case rel=>exact⟨j+1,BO,af,bD,HN5.aa,Ta.aa.1,HST.aa⟩
     case measure=>simp[intOf];omega
    ·obtain rfl:j=m.ends.length:=af;have aO:¬(m.ends.length:Int)<m.ends.length:=af;obtain rfl:BD=t:=aB;have bP:=hb2.aX y (D.aa lo (aD _));have oD:=ik.aX y (D.aa (lo+1) af);have qb:=bP.cell;have qc:=oD.cell;have hfp:Fx (λk=>M k∨bu p2 k) (λW=>aq aW m.eD (.slice A4 m.eD.length c4) W) wr:=H4.aa.to (Bo.aa wr y) (λ_ h=>h) λk hk h=>h.elim (λh=>h) λh=>(G k h).elim (H.aa.sub k) λh=>(by have:=bB.size;omega)
     have C8:=ae (aoj O A m.eD _ hfp wI.aa N9);rw[Q]at C8;have BN:=ae y;have T:=ae E;have y4:=ae G;have fy:=ae HR.aa;go_wp2_with fail
     apply aI C8.aa;intro w4 hN5;have HN5:=ae (dE.tr BN.aa T.aa y4.aa (λ_ h=>.inl h) hN5);go_wp2;rw[Exit.noGoto_normal];go_end0;refine⟨rfl,?_⟩;rw[fy.aa];exact dE.x8 HN5.aa bB wj.aa
structure kO(B:bf):Prop where
 nd:B.told.Nodup
 tf:∀a∈B.told,dJ a
 rf:∀a∈B.refused,dJ a
 nk:(B.bI.map (·.1)).Nodup
theorem kO.same{B B'}(h:kO B)(j:B'.told=B.told)(t:B'.refused=B.refused/\B'.bI=B.bI):kO B':=⟨by rw[j];exact h.nd,by rw[j];exact h.tf,by rw[t.1];exact h.rf,by rw[t.2];exact h.nk⟩
theorem Pt{B}(u:bC B)(h:kO B):kO (gA B):=by
 have t:=u.open';unfold gA;split
 ·have y:=Ih u λx j=>(t.2.1 x j).2
  have A:=KQ (kids:=dA B) (p:=(yK B,[])) y.1 λx j=>(t.1 x j).2
  have e:=y.2.tr A.2.1;exact h.same e.told ⟨e.refused,e.bI⟩
 ·exact h
theorem acz B a:(jq B a).refused=B.refused/\(jq B a).bI=B.bI:=by
 unfold jq;split
 ·have h:=Ft (B:=B) (r:=ju 5 a) DY;exact⟨h.refused,h.bI⟩
 ·simp
theorem U0:∀ {l:List aL} {B:bf} {n:Nat},(lS B n l).refused=B.refused/\(lS B n l).bI=B.bI
 | [],B,n=>⟨rfl,rfl⟩
 | x :: l,B,n=>by
  unfold lS;split
  ·split
   ·have h:=Ft (B:=B) (r:=mF n x) AE;have g:=U0 (l:=l) (B:=(dB B (mF n x)).1) (n:=(n+1)%18446744073709551616);exact⟨g.1.trans h.refused,g.2.trans h.bI⟩
   ·exact⟨rfl,rfl⟩
  ·exact U0
theorem atT{B a}(h:kO B)(u:bC B)(y:dJ a)(C:B.told.length+1<=1000000):kO (ni B a)/\bC (ni B a)/\(ni B a).told.length<=B.told.length+1:=by
 unfold ni;split
 ·grind
 ·rename_i hn;have j:=OS (UH (a:=a) u C) y;have t:=acz { B with told:=B.told++[a],aA:=fE B.aA a } a;have A:a∉B.told:=λD=>hn (by grind [tJ,K3])
  refine⟨⟨?_,?_,?_,?_⟩,j.1,?_⟩
  ·rw[j.2];exact O7 h.nd A
  ·rw[j.2];intro b hb;rcases List.mem_append.1 hb with hb|hb
   ·exact h.tf b hb
   ·grind
  ·rw[t.1];exact h.rf
  ·rw[t.2];exact h.nk
  ·grind
theorem ac6:∀ {l:List aT} {B:bf},kO B->bC B->(∀a∈l,dJ a)->B.told.length+l.length<=1000000->kO (l.foldl ni B)/\bC (l.foldl ni B)/\(l.foldl ni B).told.length<=B.told.length+l.length
 | [],B,h,hG,_,_=>⟨h,hG,aj⟩
 | a :: l,B,h,hG,hl,hn=>by simp only[eQ]at hn;obtain⟨t,u,A⟩:=atT h hG (hl a aj) af;obtain⟨y,j,C⟩:=ac6 (l:=l) t u (λb hb=>hl b (by simp[hb])) af;exact⟨y,j,by simp only[List.foldl_cons,eQ];omega⟩
theorem acA:∀ {l:List aT} {B:bf},kO B->bC B->(∀a∈l,dJ a)->kO (l.foldl jq B)/\bC (l.foldl jq B)/\(l.foldl jq B).told=B.told
 | [],B,h,hG,_=>⟨h,hG,rfl⟩
 | a :: l,B,h,hG,hl=>by
  have j:=OS hG (hl a aj);obtain⟨u,y,t⟩:=acA (l:=l) (h.same j.2 (acz B a)) j.1 λb hb=>hl b (by simp[hb])
  exact⟨u,y,t.trans j.2⟩
theorem adS{s:dy}{y:aT}:∀ {l:List aL} {p:List aL×List aT},y∈(l.foldl (jB s) p).2->y∈p.2∨∃x∈l,y=au x
 | [],p,h=>.inl h
 | x :: l,p,h=>by
  rcases adS (l:=l) h with h|⟨z,hz,e⟩
  ·unfold jB at h;exact aio
  ·exact .inr ⟨z,IK,e⟩
theorem aez{s}:∀(l:List aL) (p:List aL×List aT),(l.foldl (jB s) p).1.length+(l.foldl (jB s) p).2.length<=p.1.length+p.2.length+l.length
 | [],p=>aj
 | x :: l,p=>by
  have:=aez (s:=s) l (jB s p x);have:(jB s p x).1.length+(jB s p x).2.length<=p.1.length+p.2.length+1:=by
   unfold jB;split
   ·omega
   ·split <;> simp <;> omega
  simp only[List.foldl_cons,eQ];omega
theorem Pu{y}:∀ {l:List aL} {p:bf×List aT},((l.foldl iX p).1.told=p.1.told/\(l.foldl iX p).1.bI=p.1.bI)/\(y∈(l.foldl iX p).2->y∈p.2∨∃x∈l,y=au x)
 | [],p=>⟨⟨rfl,rfl⟩,.inl⟩
 | x :: l,p=>by
  obtain⟨t,u⟩:=Pu (y:=y) (l:=l) (p:=iX p x);have j:((iX p x).1.told=p.1.told/\(iX p x).1.bI=p.1.bI)/\(y∈(iX p x).2->y∈p.2∨y=au x):=by
   unfold iX;split
   ·have g:=Ft (B:=p.1) (r:=ui x) D3;exact⟨⟨g.told,g.bI⟩,.inl⟩
   ·exact⟨⟨rfl,rfl⟩,λh=>B7⟩
  refine⟨⟨t.1.trans j.1.1,t.2.trans j.1.2⟩,λh=>?_⟩;rcases u h with h|⟨z,hz,e⟩
  ·rcases j.2 h with h|h
   ·exact .inl h
   ·exact .inr ⟨x,aj,h⟩
  ·exact .inr ⟨z,IK,e⟩
theorem LH{x}(h:cE x):dJ (au x):=⟨h.2.1,h.2.2.2.1,h.2.2.2.2.1⟩
theorem atU{B l}(h:kO B)(D:bC B)(u:∀x∈l,cE x)(hn:l.length<=16):kO (sR B l)/\bC (sR B l)/\(sR B l).told=B.told:=by
 have hm:∀x∈lY B l,x∈l:=λx j=>(List.mem_filter.1 j).1
 have hp:∀x∈(nJ B.st (lY B l)).1,x∈l:=λx j=>by rcases ab3 j with h|h;all_goals grind
 have C:=ac5 (l:=(nJ B.st (lY B l)).1) (p:=(B,sY B l++(nJ B.st (lY B l)).2)) D λx j=>u x (hp x j)
 have E:=aez (s:=B.st) (lY B l) ([],[]);have G:(lY B l).length<=l.length:=lQ _ _;have H:(sY B l).length<=l.length:=by grind [sY]
 have A:(rq B l).1.told=B.told:=(Pu (y:=(0,0,0))).1.1;have F:(rq B l).1.bI=B.bI:=(Pu (y:=(0,0,0))).1.2;refine⟨⟨by show (rq B l).1.told.Nodup;rw[A];exact h.nd,by show ∀a∈(rq B l).1.told,_;rw[A];exact h.tf,λa t=>?_,by show ((rq B l).1.bI.map (·.1)).Nodup;rw[F];exact h.nk⟩,?_,A⟩
 ·rcases Pu.2 t with t|⟨x,j,rfl⟩
  ·rcases List.mem_append.1 t with t|t
   ·unfold sY at t;obtain⟨x,j,rfl⟩:=List.mem_map.1 t;exact LH (u x (List.mem_filter.1 j).1)
   ·rcases adS t with t|⟨x,j,rfl⟩
    ·simp at t
    ·exact LH (u x (hm x j))
  ·exact LH (u x (hp x j))
 ·have g:=C.1;refine⟨g.tr,g.me,g.hm,g.dk,g.tx,g.calls,g.bI,g.told,?_,g.waits,g.y5⟩;have:=C.2;simp only[dq]at this;simp only[nJ]at this;simp only[List.length_nil]at E;show (rq B l).2.length<=1000000;unfold rq nJ;omega
theorem atV{B m}(h:kO B)(I:bC B)(G:dI m=true)(hfit:nX m)(S:B.told.length+m.dF.length<=1000000):kO (qh B m)/\bC (qh B m)/\(qh B m).told.length<=B.told.length+16:=by
 obtain⟨C,Q,y,J,A,U,H,O,N⟩:=QD G hfit
 have E:=Pf (l:=m.entries) (B:=B) (n:=m.got)
 have u:=h.same E (U0 (l:=m.entries) (B:=B) (n:=m.got))
 have M:=Pe I N λx j=>(C x j).2
 obtain⟨D,t,W⟩:=ac6 u M A aB
 obtain⟨F,L,T⟩:=acA D t H
 obtain⟨X,V,R⟩:=atU F L (λx j=>(y x j).2) J
 grind [dI,nX,qh,sR,jq,ni,lS]
theorem ar6{l k m x}(h:x∈mw l k m):x∈l∨x=(k,m):=by
 grind [mw]
theorem atW{l k m}(h:(l.map (·.1)).Nodup):((mw l k m).map (·.1)).Nodup:=by
 grind [mw]
theorem Pv{B k m}(j:bC B)(t:dI m=true)(hfit:nX m):bC { B with bI:=mw B.bI k m } :=
 ⟨j.tr,j.me,j.hm,j.dk,j.tx,j.calls,λx u=>by
  rcases ar6 u with h|rfl
  ·exact j.bI x h
  ·exact⟨t,hfit⟩,j.told,j.fB,j.waits,j.y5⟩
theorem acB{B}(h:kO B)(A:bC B) j b(G:B.told.length+16<=1000000):kO (gX B j b).1/\bC (gX B j b).1/\(gX B j b).1.told.length<=B.told.length+16:=by
 unfold gX
 split
 ·split
  ·grind
  ·rename_i m hm;have t:=(Pq hm).2;have hfit:=PD hm;split
   ·have g:=Pv (k:=j) A t hfit;have f:kO { B with bI:=mw B.bI j m }:=⟨h.nd,h.tf,h.rf,atW h.nk⟩;refine⟨Pt g f,KR g,?_⟩;have y:=g.open';have C:=Ih g λx u=>(y.2.1 x u).2
    have D:=KQ (kids:=dA { B with bI:=mw B.bI j m }) (p:=(yK { B with bI:=mw B.bI j m },[])) C.1 λx u=>(y.1 x u).2
    have e:(gA { B with bI:=mw B.bI j m }).told=B.told:=by
     unfold gA;split
     ·exact (C.2.tr D.2.1).told
     ·rfl
    grind
   ·split
    ·have hA:=(QD t hfit).2.2.2.2.2.1;obtain⟨H,E,F⟩:=atV h A t hfit af;grind
    grind
 grind
theorem Vr{l cs x}(h:cE x):cE (jD l cs x):=by
 grind [cE,jD]
theorem aeA{ab:List aT}{a:aT}:∀ {l:List aL} {o:List aT},a∈l.foldl (p9 ab) o->a∈o∨∃x∈l,a=au x
 | [],o,h=>.inl h
 | x :: l,o,h=>by
  rcases aeA (l:=l) h with h|⟨z,hz,e⟩
  ·unfold p9 at h;split at h
   ·exact aip
   ·exact .inl h
  ·exact .inr ⟨z,IK,e⟩
theorem aeB{s:dy}{op:List aL}{a:aT}:∀ {l:List kY} {o:List aT},a∈l.foldl (lr s op) o->a∈o∨∃x∈l,a=x.id
 | [],o,h=>.inl h
 | x :: l,o,h=>by
  rcases aeB (l:=l) h with h|⟨z,hz,e⟩
  ·unfold lr at h;exact aio
  ·exact .inr ⟨z,IK,e⟩
theorem ac7{j:List eW}{v:kY}:∀ {l:List aL} {o:List kY},v∈l.foldl (qU j) o->v∈o∨∃x∈l,v.id=au x
 | [],o,h=>.inl h
 | x :: l,o,h=>by
  rcases ac7 (l:=l) h with h|⟨z,hz,e⟩
  ·unfold qU at h;split at h
   ·rcases List.mem_append.1 h with h|h
    ·exact .inl h
    ·simp at h;exact .inr ⟨x,aj,by rw[h]⟩
   ·exact .inl h
  ·exact .inr ⟨z,IK,e⟩
theorem ac8{v:kY}:∀ {l:List aT} {o:List kY},v∈l.foldl mr o->v∈o∨v.id∈l
 | [],o,h=>.inl h
 | x :: l,o,h=>by
  rcases ac8 (l:=l) h with h|h
  ·unfold mr at h;split at h
   ·exact .inl h
   ·split at h
    ·exact .inl h
    ·rcases List.mem_append.1 h with h|h
     ·exact .inl h
     ·simp at h;exact .inr (by rw[h];simp)
  ·exact .inr Ix
theorem bC.ajO{B}(j:bC B) k:(∀x∈(iK B k).asks,cE x)/\(∀v∈(iK B k).cG,dJ v.id)/\(iK B k).asks.length<=16/\(iK B k).cG.length<=16/\(iK B k).got<18446744073709551616:=by
 rcases j.rep k with h|⟨h,f⟩
 ·grind [vP]
 ·simp only[dI,jZ,dz,decide_eq_true_eq,vD]at h;obtain⟨⟨⟨⟨⟨⟨-,u,-⟩,t,-⟩,-⟩,-⟩,-⟩,-⟩:=h;exact⟨f.2.2.2.1,f.2.2.1,t,u,f.2.1⟩
theorem ab4{B}(u:bC B) k:nX (tK B k):=by
 have C:=u.dk.inv;have D:=u.ajO k;have E:=u.dk.len;refine⟨by simp[tK,bR],?_,by simp[tK],by simp[tK],λx j=>?_,λx j=>?_,λa A=>?_,λa A=>?_⟩
 ·grind [nX,tK,pE]
 ·have j:x∈AO B (uT B k) (pE B k) (yJ B.st.list (pE B k)):=j;unfold AO at j;obtain⟨y,t,rfl⟩:=List.mem_map.1 j;have:=List.fst_mem_of_mem_zipIdx t;exact Vr (C.zA _ (List.mem_of_mem_drop (nQ this))).2
 ·have j:x∈((if nh B then B.waits else B.st.prom).take 16).map (jD (jW B.st.list) (uT B k)):=j;obtain⟨y,t,rfl⟩:=List.mem_map.1 j;have t:=nQ t;split at t
  ·exact Vr (u.waits y t).2
  ·exact Vr (C.zB y t).2
 ·rcases aeA (show a∈(iK B k).asks.foldl (p9 (Ci B)) []from A)with h|⟨x,j,rfl⟩
  ·simp at h
  ·exact LH (D.1 x j)
 ·rcases aeB (show a∈(iK B k).cG.foldl (lr B.st B.waits) []from A)with h|⟨x,j,rfl⟩
  ·simp at h
  ·exact D.2.1 x j
theorem acC{B}(t:bC B)(h:kO B):nX (Ad B):=by
 have y:=t.dk.inv;have:=t.dk.len;refine⟨by simp[Ad,bR],by show B.st.list.length<_;omega,λv j=>?_,λx u=>(t.asks u).2,QE,QE,QE,QE⟩;rcases ac8 (show v∈B.refused.foldl mr (B.st.prom.foldl (qU (dA B)) [])from j)with j|j
 ·rcases ac7 j with j|⟨x,u,e⟩
  ·grind
  ·rw[e];exact LH (y.zB x u).2
 ·exact h.rf _ j
def sJ(a b:Vl):Prop:=a.1<b.1∨a.1=b.1/\(a.2.1<b.2.1∨a.2.1=b.2.1/\mf a.2.2 b.2.2=true)
theorem Pg a b:fP a b=-1/\sJ a b∨fP a b=0/\a=b∨fP a b=1/\sJ b a:=by
 grind [fP,i7,yS,sJ,ae9,mf,PO]
theorem UI a:¬sJ a a:=by
 grind [sJ,UB]
theorem zX{a b c}(h:sJ a b)(k:sJ b c):sJ a c:=by
 grind [sJ,adn]
theorem K6 a b:fP a b<0↔sJ a b:=by
 grind [Pg,UI,zX]
theorem Iu a b:0<fP a b↔sJ b a:=by
 grind [Pg,UI,zX]
theorem Pw a b:fP a b=0↔a=b:=by
 grind [Pg,UI]
theorem Xb a b:fP a b<=0↔sJ a b∨a=b:=by rw[<- K6,<- Pw];omega
theorem QF a b:0<=fP a b↔sJ b a∨a=b:=by rw[<- Iu,<- Pw];omega
theorem aeC a b:preB a b=true↔dS b <+: dS a:=by
 unfold preB;rw[ByteArray.toList_eq,ByteArray.toList_eq];simp only[dz,decide_eq_true_eq,beq_iff_eq,ByteArray.data_extract,Array.toList_extract,List.extract_eq_take_drop,List.drop_zero,Nat.sub_zero];have j:a.size=(dS a).length:=aj;have t:b.size=(dS b).length:=aj;rw[j,t];constructor
 ·grind
 ·grind [List.prefix_iff_eq_take]
theorem apw{a b:List UInt8}(h:b <+: a):¬a<b:=by
 obtain⟨t,rfl⟩:=h
 induction b with
 | nil=>simp
 | cons x b j=>simp only[aQ,List.cons_lt_cons_iff];intro h;rcases h with h|⟨-,h⟩;exact absurd h aj;exact j h
theorem axp{v a}(h:jK v a=true)(t:v.2.1=0)(y:a.2.1=0):¬sJ v a:=by
 unfold jK at h
 simp only[dz,beq_iff_eq]at h
 obtain⟨⟨j,u⟩,A⟩:=h
 grind [sJ,Li,apw,aeC]
theorem ar7{a b c}(h:jK a b=true)(k:jK b c=true):jK a c=true:=by
 unfold jK at *
 simp only[dz,beq_iff_eq,aeC]at *
 grind
def EA(a b:cX):Bool :=
 if a.2.1=1 then jc b a.2.2
 else if a.2.1=3 then decide ((b.2.1=3∨b.2.1=4∨b.2.1=2)/\fP a.2.2 b.2.2<=0)
 else if a.2.1=4 then (if b.2.1=4 then decide (fP a.2.2 b.2.2<=0)else decide ((b.2.1=3∨b.2.1=2)/\fP a.2.2 b.2.2<0))
 else if a.2.1=5 then decide ((b.2.1=5∨b.2.1=6∨b.2.1=2)/\0<=fP a.2.2 b.2.2)
 else if a.2.1=6 then (if b.2.1=6 then decide (0<=fP a.2.2 b.2.2)else decide ((b.2.1=5∨b.2.1=2)/\0<fP a.2.2 b.2.2))
 else if a.2.1=7 then (if b.2.1=7 then jK a.2.2 b.2.2 else if b.2.1=6 then decide (0<=fP a.2.2 b.2.2)else if b.2.1=5 then decide (0<fP a.2.2 b.2.2)else if b.2.1=2 then !jK b.2.2 a.2.2 else false)
 else false
def Du(o:Int):Bool:=decide (1<=o)&&decide (o<=8)
def qE(a b:cX):Bool :=
 if a.1≠b.1∨Du a.2.1=false∨Du b.2.1=false then false
 else if a=b∨b.2.1=8 then true
 else if a.2.1=8∨a.2.2.1≠b.2.2.1 then false
 else EA a b
def oO(f g:List cX):Bool:=f.all λt=>g.any λu=>qE u t
def oP:List (List cX)->List (List cX)->List (List cX)
 | out,[]=>out
 | out,f :: r=>if out.any (λs=>oO s f)||r.any (λs=>oO s f)then oP out r else oP (out++[f]) r
def si(l:List (List cX)):List (List cX):=oP [] l
def jN(l:List (List cX))(e:List cM):Bool:=l.any λf=>mq f e
theorem avR{t v}(h:jc t v=true)(h8:t.2.1≠8):v.1=t.2.2.1:=by
 grind [jc]
theorem aiq{v:Vl}(h:iP v.1 v.2.1 v.2.2=true)(k:v.1=2):v.2.1=0:=by
 grind [iP]
theorem atX{a b v}(S:gj a=true)(hb:gj b=true)(M:iP v.1 v.2.1 v.2.2=true)(h:qE a b=true)(j:jc a v=true):jc b v=true:=by
 unfold qE at h;split at h
 ·cases h
 split at h
 ·rename_i B;rcases B with rfl|B
  ·exact j
  ·unfold jc;simp[B]
 rename_i B;split at h
 ·cases h
 rename_i I;have E:a.2.1≠8:=λe=>I (.inl e)
 have J:b.2.1≠8:=λe=>B (.inr e)
 have hk:=Decidable.byContradiction λe=>I (.inr e)
 have H:=avR j E;have N:=(Fu S).2.2.2.2 E;have gb:=(Fu hb).2.2.2.2 J;obtain⟨na,u,va⟩:=a;obtain⟨O,y,t⟩:=b;simp only at *;have Q:jc (O,y,t) v=(if y==1 then fP v t==0 else if y==2 then fP v t != 0 else if y==3 then decide (fP v t<0)else if y==4 then decide (fP v t<=0)
  else if y==5 then decide (0<fP v t)else if y==6 then decide (0<=fP v t)else if y==7 then jK v t else false):=by
  unfold jc;simp[J,H,hk]
 have L:jc (na,u,va) v=(if u==1 then fP v va==0 else if u==2 then fP v va != 0 else if u==3 then decide (fP v va<0)else if u==4 then decide (fP v va<=0)
  else if u==5 then decide (0<fP v va)else if u==6 then decide (0<=fP v va)else if u==7 then jK v va else false):=by
  unfold jc;simp[E,H]
 rw[L]at j;have U:=h;unfold EA at h;simp only at h;split at h
 ·rename_i e;simp only[e,beq_self_eq_true,if_true,beq_iff_eq,Pw]at j;rw[j];exact h
 rw[Q];split at h
 ·rename_i e;subst e;simp at j h;rw[K6]at j;rw[Xb]at h;have A:=h.2.elim (λk=>zX j k) λk=>k▸j
  have F:=(K6 _ _).2 A;rcases h.1 with rfl|rfl|rfl <;> simp <;> omega
 split at h
 ·rename_i e;subst e;simp at j;rw[Xb]at j;split at h
  ·rename_i e;subst e;simp at h⊢;rw[Xb]at h⊢;rcases j with j|rfl
   ·exact .inl (h.elim (λk=>zX j k) λk=>k▸j)
   ·exact h
  ·simp at h;rw[K6]at h;have A:=j.elim (λk=>zX k h.2) λk=>k▸h.2
   have F:=(K6 _ _).2 A;rcases h.1 with rfl|rfl <;> simp <;> omega
 split at h
 ·rename_i e;subst e;simp at j h;rw[Iu]at j;rw[QF]at h;have A:=h.2.elim (λk=>zX k j) λk=>k▸j
  have F:=(Iu _ _).2 A;rcases h.1 with rfl|rfl|rfl <;> simp <;> omega
 split at h
 ·rename_i e;subst e;simp at j;rw[QF]at j;split at h
  ·rename_i e;subst e;simp at h⊢;rw[QF]at h⊢;rcases j with j|rfl
   ·exact .inl (h.elim (λk=>zX k j) λk=>k▸j)
   ·exact h
  ·simp at h;rw[Iu]at h;have A:=j.elim (λk=>zX h.2 k) λk=>k▸h.2
   have F:=(Iu _ _).2 A;rcases h.1 with rfl|rfl <;> simp <;> omega
 split at h
 ·rename_i e;subst e;simp at j;have D:=j;unfold jK at D;simp only[dz,beq_iff_eq]at D;have P:=aiq M D.1.1;have T:=aiq N D.1.2;have R:=axp j P T;have C:sJ va v∨va=v:=by
   rcases Pg va v with h|h|h
   ·exact .inl h.2
   ·exact .inr h.2
   ·exact absurd h.2 R
  split at h
  ·rename_i e;subst e;simp;exact ar7 j h
  split at h
  ·rename_i e;subst e;simp at h⊢;rw[QF]at h⊢;rcases C with C|rfl
   ·exact .inl (h.elim (λk=>zX k C) λk=>k▸C)
   ·exact h
  split at h
  ·rename_i e;subst e;simp at h⊢;rw[Iu]at h⊢;exact C.elim (λk=>zX h k) λk=>k▸h
  split at h
  ·rename_i e;subst e;simp at h⊢;intro G;rw[Pw]at G;subst G;rw[j]at h;cases h
  ·cases h
 ·cases h
theorem aqz{a b e}(y:gj a=true)(hb:gj b=true)(A:∀x∈e,j8 x=true)(h:qE a b=true)(t:p5 a e=true):p5 b e=true:=by
 have hn:a.1=b.1:=by
  grind [gj,j8,qE,p5]
 unfold p5 at *;rw[<- hn];split at t
 ·rename_i x u;have hm:=List.mem_of_find?_eq_some u;have j:=A x hm;unfold j8 at j;simp only[dz]at j;exact atX y hb j.2 h t
 ·cases t
theorem adT{f g e}(j:∀t∈f,gj t=true)(hg:∀t∈g,gj t=true)(u:∀x∈e,j8 x=true)(h:oO f g=true)(y:mq g e=true):mq f e=true:=by
 grind [oO,mq,vD,List.any_eq_true,aqz]
theorem UJ{e}(y:∀x∈e,j8 x=true):∀ {l out:List (List cX)},(∀f∈l,∀t∈f,gj t=true)->(∀f∈out,∀t∈f,gj t=true)->jN (oP out l) e=(jN out e||jN l e)
 | [],out,_,_=>by simp[oP,jN]
 | f :: r,out,hl,ho=>by
  unfold oP;have A:∀g∈r,∀t∈g,gj t=true:=λg hg=>hl g (by simp[hg])
  split
  ·rename_i j;rw[UJ y A ho];have B:mq f e=true->(jN out e||jN r e)=true:=by
    intro hm;rw[Bool.or_eq_true]at j⊢;unfold jN;simp only[List.any_eq_true]at j⊢;rcases j with ⟨s,u,j⟩|⟨s,u,j⟩
    ·exact .inl ⟨s,u,adT (ho s u) (hl f aj) y j hm⟩
    ·exact .inr ⟨s,u,adT (A s u) (hl f aj) y j hm⟩
   show _=(jN out e||(mq f e||jN r e));cases hm:mq f e
   ·simp
   ·rw[B hm];simp
  ·rw[UJ y A (λg hg=>by
    rcases List.mem_append.1 hg with hg|hg
    ·exact ho g hg
    ·simp at hg;subst hg;exact hl g aj)]
   show (jN (out++[f]) e||jN r e)=(jN out e||(mq f e||jN r e));unfold jN;simp[List.any_append,Bool.or_assoc]
theorem ar8{l e}(u:∀f∈l,∀t∈f,gj t=true)(j:∀x∈e,j8 x=true):jN (si l) e=jN l e:=by
 grind [si,UJ,jN]
theorem Vs{f:List cX}:∀ {l out:List (List cX)},f∈oP out l->f∈out∨f∈l
 | [],out,h=>.inl h
 | g :: r,out,h=>by
  unfold oP at h;split at h
  ·rcases Vs h with h|h
   ·exact .inl h
   ·exact .inr Ix
  ·rcases Vs h with h|h
   ·rcases List.mem_append.1 h with h|h
    ·exact .inl h
    ·simp at h;subst h;exact .inr aj
   ·exact .inr Ix
theorem Vt:∀ {l out:List (List cX)},(oP out l).length<=out.length+l.length
 | [],out=>by simp[oP]
 | g :: r,out=>by
  unfold oP;split
  ·exact bo Vt aj
  ·exact bo Vt aY
abbrev tE(a b:cX)(z:Int):Array Value:=#[.string a.1,.int .i64 a.2.1,.int .i64 a.2.2.1,.int .i64 a.2.2.2.1,.string a.2.2.2.2,.string b.1,.int .i64 b.2.1,.int .i64 b.2.2.1,.int .i64 b.2.2.2.1,.string b.2.2.2.2,.int .i64 z]
def Dv(op:Int):Nat:=if op=1 then 368 else if op=3 then 369 else if op=4 then 370 else if op=5 then 371 else if op=6 then 372 else if op=7 then 373 else 374
theorem aqA op w:Calls prog 360 #[.int .i64 op] w λe w'=>e=.returned (.func (.func (Dv op)) #[] #[])/\K w w':=by
 by_cases h1:op=1
 ·subst h1;exact IL
 by_cases h3:op=3
 ·subst h3;exact IL
 by_cases h4:op=4
 ·subst h4;exact IL
 by_cases h5:op=5
 ·subst h5;exact IL
 by_cases h6:op=6
 ·subst h6;exact IL
 by_cases h7:op=7
 ·subst h7;exact IL
 have:(op==1)=false:=B8;have:(op==3)=false:=Lq;have:(op==4)=false:=Iy;have:(op==5)=false:=Lo;have:(op==6)=false:=QG;have:(op==7)=false:=by simpa using h7
 have HP:Hid (Dv op=374):=ae (by simp[Dv,h1,h3,h4,h5,h6,h7]);generalize Dv op=F at *;go_in;go_wp2;go_ret;exact⟨Xc,K.rf w⟩
theorem acD op w:Calls prog 359 #[.int .i64 op] w λe w'=>e=.returned (.bool (Du op))/\K w w':=by
 have HR:Hid (Du op=(decide (1<=op)&&decide (op<=8))):=ae rfl;generalize Du op=R at *;by_cases h1:1<=op
 ·have HR:Hid (R=decide (op<=8)):=ae air;go_in;go_wp2;go_ret;exact⟨fJ,K.rf w⟩
 ·have HR:Hid (R=false):=ae air;go_in;go_wp2;go_ret;exact⟨fJ,K.rf w⟩
theorem apx a b z w:Calls prog 374 #[.agg (tE a b z)] w λe w'=>e=.returned (.bool false)/\K w w':=by have:=K.new w (.cells (tE a b z) 381);go_in;go_wp2;go_ret;simp_all
theorem aqB a b z w:Calls prog 368 #[.agg (tE a b z)] w λe w'=>e=.returned (.bool (jc b a.2.2))/\K w w':=by
 have t:=K.new w (.cells (tE a b z) 381);have j:=ae λW=>aex b a.2.2 W
 generalize jc b a.2.2=R at *;go_in;go_wp2_with fail
 apply cF (j.aa _) t;intro y A u;go_wp2;go_ret;exact⟨rfl,u⟩
theorem aqC a b z w:Calls prog 369 #[.agg (tE a b z)] w λe w'=>e=.returned (.bool (decide ((b.2.1=3∨b.2.1=4∨b.2.1=2)/\z<=0)))/\K w w':=by
 have k1:=K.new w (.cells (tE a b z) 381);obtain⟨C,j,y,D,t⟩:=b;have HR:Hid ((decide ((j=3∨j=4∨j=2)/\z<=0))=(decide ((j=3∨j=4∨j=2)/\z<=0))):=ae rfl;show Calls _ _ _ _ λe w'=>e=.returned (.bool (decide ((j=3∨j=4∨j=2)/\z<=0)))/\_
 clear HR;by_cases h3:j=3
 ·have HR:Hid ((decide ((j=3∨j=4∨j=2)/\z<=0))=decide (z<=0)):=ae (by subst h3;simp);generalize (decide ((j=3∨j=4∨j=2)/\z<=0))=R at *;subst h3;go_in;exact mW
 by_cases h4:j=4
 ·have HR:Hid ((decide ((j=3∨j=4∨j=2)/\z<=0))=decide (z<=0)):=ae (by subst h4;simp);generalize (decide ((j=3∨j=4∨j=2)/\z<=0))=R at *;subst h4;go_in;exact mW
 by_cases h2:j=2
 ·have HR:Hid ((decide ((j=3∨j=4∨j=2)/\z<=0))=decide (z<=0)):=ae LI;generalize (decide ((j=3∨j=4∨j=2)/\z<=0))=R at *;subst h2;go_in;exact mW
 have HR:Hid ((decide ((j=3∨j=4∨j=2)/\z<=0))=false):=ae (by simp[h3,h4,h2]);generalize (decide ((j=3∨j=4∨j=2)/\z<=0))=R at *;have:(j==3)=false:=Lq;have:(j==4)=false:=Iy;have:(j==2)=false:=yy;clear h3 h4 h2;go_in;exact mW
theorem aoN a b z w:Calls prog 370 #[.agg (tE a b z)] w λe w'=>e=.returned (.bool (if b.2.1=4 then decide (z<=0)else decide ((b.2.1=3∨b.2.1=2)/\z<0)))/\K w w':=by
 have k1:=K.new w (.cells (tE a b z) 381);obtain⟨C,j,y,D,t⟩:=b;have HR:Hid ((if j=4 then decide (z<=0)else decide ((j=3∨j=2)/\z<0))=(if j=4 then decide (z<=0)else decide ((j=3∨j=2)/\z<0))):=ae rfl;show Calls _ _ _ _ λe w'=>e=.returned (.bool (if j=4 then decide (z<=0)else decide ((j=3∨j=2)/\z<0)))/\_
 clear HR;by_cases h4:j=4
 ·have HR:Hid ((if j=4 then decide (z<=0)else decide ((j=3∨j=2)/\z<0))=decide (z<=0)):=ae (by subst h4;simp);generalize (if j=4 then decide (z<=0)else decide ((j=3∨j=2)/\z<0))=R at *;subst h4;go_in;exact mW
 by_cases h3:j=3
 ·have HR:Hid ((if j=4 then decide (z<=0)else decide ((j=3∨j=2)/\z<0))=decide (z<0)):=ae (by subst h3;simp);generalize (if j=4 then decide (z<=0)else decide ((j=3∨j=2)/\z<0))=R at *;subst h3;go_in;exact mW
 by_cases h2:j=2
 ·have HR:Hid ((if j=4 then decide (z<=0)else decide ((j=3∨j=2)/\z<0))=decide (z<0)):=ae LI;generalize (if j=4 then decide (z<=0)else decide ((j=3∨j=2)/\z<0))=R at *;subst h2;go_in;exact mW
 have HR:Hid ((if j=4 then decide (z<=0)else decide ((j=3∨j=2)/\z<0))=false):=ae (by simp[h4,h3,h2]);generalize (if j=4 then decide (z<=0)else decide ((j=3∨j=2)/\z<0))=R at *;have:(j==4)=false:=Iy;have:(j==3)=false:=Lq;have:(j==2)=false:=yy;clear h4 h3 h2;go_in;exact mW
theorem aqD a b z w:Calls prog 371 #[.agg (tE a b z)] w λe w'=>e=.returned (.bool (decide ((b.2.1=5∨b.2.1=6∨b.2.1=2)/\0<=z)))/\K w w':=by
 have k1:=K.new w (.cells (tE a b z) 381);obtain⟨C,j,y,D,t⟩:=b;have HR:Hid ((decide ((j=5∨j=6∨j=2)/\0<=z))=(decide ((j=5∨j=6∨j=2)/\0<=z))):=ae rfl;show Calls _ _ _ _ λe w'=>e=.returned (.bool (decide ((j=5∨j=6∨j=2)/\0<=z)))/\_
 clear HR;by_cases h5:j=5
 ·have HR:Hid ((decide ((j=5∨j=6∨j=2)/\0<=z))=decide (0<=z)):=ae Xd;generalize (decide ((j=5∨j=6∨j=2)/\0<=z))=R at *;subst h5;go_in;exact mW
 by_cases h6:j=6
 ·have HR:Hid ((decide ((j=5∨j=6∨j=2)/\0<=z))=decide (0<=z)):=ae Xe;generalize (decide ((j=5∨j=6∨j=2)/\0<=z))=R at *;subst h6;go_in;exact mW
 by_cases h2:j=2
 ·have HR:Hid ((decide ((j=5∨j=6∨j=2)/\0<=z))=decide (0<=z)):=ae LI;generalize (decide ((j=5∨j=6∨j=2)/\0<=z))=R at *;subst h2;go_in;exact mW
 have HR:Hid ((decide ((j=5∨j=6∨j=2)/\0<=z))=false):=ae (by simp[h5,h6,h2]);generalize (decide ((j=5∨j=6∨j=2)/\0<=z))=R at *;have:(j==5)=false:=Lo;have:(j==6)=false:=QG;have:(j==2)=false:=yy;clear h5 h6 h2;go_in;exact mW
theorem aok a b z w:Calls prog 372 #[.agg (tE a b z)] w λe w'=>e=.returned (.bool (if b.2.1=6 then decide (0<=z)else decide ((b.2.1=5∨b.2.1=2)/\0<z)))/\K w w':=by
 have k1:=K.new w (.cells (tE a b z) 381);obtain⟨C,j,y,D,t⟩:=b;have HR:Hid ((if j=6 then decide (0<=z)else decide ((j=5∨j=2)/\0<z))=(if j=6 then decide (0<=z)else decide ((j=5∨j=2)/\0<z))):=ae rfl;show Calls _ _ _ _ λe w'=>e=.returned (.bool (if j=6 then decide (0<=z)else decide ((j=5∨j=2)/\0<z)))/\_
 clear HR;by_cases h6:j=6
 ·have HR:Hid ((if j=6 then decide (0<=z)else decide ((j=5∨j=2)/\0<z))=decide (0<=z)):=ae Xe;generalize (if j=6 then decide (0<=z)else decide ((j=5∨j=2)/\0<z))=R at *;subst h6;go_in;exact mW
 by_cases h5:j=5
 ·have HR:Hid ((if j=6 then decide (0<=z)else decide ((j=5∨j=2)/\0<z))=decide (0<z)):=ae Xd;generalize (if j=6 then decide (0<=z)else decide ((j=5∨j=2)/\0<z))=R at *;subst h5;go_in;exact mW
 by_cases h2:j=2
 ·have HR:Hid ((if j=6 then decide (0<=z)else decide ((j=5∨j=2)/\0<z))=decide (0<z)):=ae LI;generalize (if j=6 then decide (0<=z)else decide ((j=5∨j=2)/\0<z))=R at *;subst h2;go_in;exact mW
 have HR:Hid ((if j=6 then decide (0<=z)else decide ((j=5∨j=2)/\0<z))=false):=ae (by simp[h6,h5,h2]);generalize (if j=6 then decide (0<=z)else decide ((j=5∨j=2)/\0<z))=R at *;have:(j==6)=false:=QG;have:(j==5)=false:=Lo;have:(j==2)=false:=yy;clear h6 h5 h2;go_in;exact mW
theorem aoO a b z w:Calls prog 373 #[.agg (tE a b z)] w λe w'=>e=.returned (.bool (if b.2.1=7 then jK a.2.2 b.2.2 else if b.2.1=6 then decide (0<=z)else if b.2.1=5 then decide (0<z)else if b.2.1=2 then !jK b.2.2 a.2.2 else false))/\K w w':=by
 have k1:=K.new w (.cells (tE a b z) 381);have C:=ae λW=>Un a.2.2 b.2.2 W
 have D:=ae λW=>Un b.2.2 a.2.2 W
 obtain⟨I,j,A,B,y⟩:=b;show Calls _ _ _ _ λe w'=>e=.returned (.bool (if j=7 then jK a.2.2 (A,B,y)else if j=6 then decide (0<=z)else if j=5 then decide (0<z)else if j=2 then !jK (A,B,y) a.2.2 else false))/\_
 simp only at C D;generalize jK a.2.2 (A,B,y)=t at *;generalize jK (A,B,y) a.2.2=u at *;by_cases h7:j=7
 ·have HR:Hid ((if j=7 then t else if j=6 then decide (0<=z)else if j=5 then decide (0<z)else if j=2 then !u else false)=(t)):=ae (by subst h7;simp);generalize (if j=7 then t else if j=6 then decide (0<=z)else if j=5 then decide (0<z)else if j=2 then !u else false)=R at *;subst h7;go_in;go_wp2_with fail
  apply cF (C.aa _) k1;exact ais
 by_cases h6:j=6
 ·have HR:Hid ((if j=7 then t else if j=6 then decide (0<=z)else if j=5 then decide (0<z)else if j=2 then !u else false)=(decide (0<=z))):=ae Xe;generalize (if j=7 then t else if j=6 then decide (0<=z)else if j=5 then decide (0<z)else if j=2 then !u else false)=R at *;subst h6;go_in;exact mW
 by_cases h5:j=5
 ·have HR:Hid ((if j=7 then t else if j=6 then decide (0<=z)else if j=5 then decide (0<z)else if j=2 then !u else false)=(decide (0<z))):=ae Xd;generalize (if j=7 then t else if j=6 then decide (0<=z)else if j=5 then decide (0<z)else if j=2 then !u else false)=R at *;subst h5;go_in;exact mW
 by_cases h2:j=2
 ·have HR:Hid ((if j=7 then t else if j=6 then decide (0<=z)else if j=5 then decide (0<z)else if j=2 then !u else false)=(!u)):=ae LI;generalize (if j=7 then t else if j=6 then decide (0<=z)else if j=5 then decide (0<z)else if j=2 then !u else false)=R at *;subst h2;go_in;go_wp2_with fail
  apply cF (D.aa _) k1;exact ais
 have HR:Hid ((if j=7 then t else if j=6 then decide (0<=z)else if j=5 then decide (0<z)else if j=2 then !u else false)=false):=ae (by simp[h7,h6,h5,h2]);generalize (if j=7 then t else if j=6 then decide (0<=z)else if j=5 then decide (0<z)else if j=2 then !u else false)=R at *;have:(j==7)=false:=by simpa using h7
 have:(j==6)=false:=QG;have:(j==5)=false:=Lo;have:(j==2)=false:=yy;go_in;exact mW
theorem ar9 a b w:Calls prog (Dv a.2.1) #[.agg (tE a b (fP a.2.2 b.2.2))] w λe w'=>e=.returned (.bool (EA a b))/\K w w':=by
 unfold Dv EA;split
 ·exact aqB a b _ w
 split
 ·exact aqC a b _ w
 split
 ·exact aoN a b _ w
 split
 ·exact aqD a b _ w
 split
 ·exact aok a b _ w
 split
 ·exact aoO a b _ w
 ·exact apx a b _ w
theorem atY op:∀args W,(callFunc (Dv op) args).run prog W=.ok (.enter (Dv op) args) W:=by
 intro args W
 unfold Dv
 repeat' split
 all_goals rfl
