/-
  The walk of broker's Stage (layer 20). Conditions: none.
-/
import Derived.Test.YtfndfpdhlbmboaaGreatMa15
import Derived.Test.YtfndfpdhlbmboaaGreatMz
set_option maxRecDepth 100000
set_option linter.constructorNameAsVariable false
set_option maxHeartbeats 16000000
set_option linter.unusedVariables false
set_option linter.unusedSimpArgs false
namespace Go.Proofs.YtfndfpdhlbmboaaGreat
open Go Go.RowKit _root_.Go.Proofs.Tryz
def LQ(lo:Nat)(x:aK)(v:Value)(W:World):Prop:=∃vf j,v=.agg (aD x vf j)/\Fx (λk=>k<lo) (λW=>aU.rel x (aD x vf j).toList W) W
theorem V5 lo x:∀v w w',LQ lo x v w->Below w.heap.size w w'->LQ lo x v w':=by rintro v w w'⟨vf,j,e,h⟩ k;exact⟨vf,j,e,h.k k⟩
def Zv(lo:Nat)(t:eF)(v:Value)(W:World):Prop:=∃vf j,v=.agg (gE t vf j)/\Fx (λk=>k<lo) (λW=>cW.rel t (gE t vf j).toList W) W
theorem ax6 lo x:∀v w w',Zv lo x v w->Below w.heap.size w w'->Zv lo x v w':=by rintro v w w'⟨vf,j,e,h⟩ k;exact⟨vf,j,e,h.k k⟩
theorem apt{M p B w}(h:bA M p B w)(y:bD B) :
 Calls prog 66 #[.pointer (some ⟨p.g,0,none⟩)] w λe w'=>∃v',e=.returned v'/\aA (λk=>k<w.heap.size) w.heap.size 128 cW B.aB v' w'/\K w w':=by
 have HS:=ae y.tx.small
 have hn:=y.tx.zW
 have q:=h.blk.cell
 have u:=h.bI.now.aB
 obtain⟨g,gl,gd,gr,gt,vd,vr,vp,vh,vl,vq,va,vt,vf,vw,kr⟩:=p
 simp only at q u
 clear h y
 obtain⟨A,c,rfl,u,hc⟩:=u
 generalize B.aB=l at *
 have R:=K.rf w
 have hO:=aA.nil (λk=>k<w.heap.size) w.heap.size 128 cW w
 go_enter func66,ntmps66
 go_upto_block 0 with (fail)
 clear q
 go_wp2_with fail
 go_loopw [3,5,13] (fun o _ i W=>∃j:Nat,j<=l.length/\i=.int .i64 j/\aA (fun k=>k<w.heap.size) w.heap.size 128 cW (l.take j) o W/\K w W) (fun _ _ i _=>l.length-(intOf i).toNat)
 case atStart=>exact⟨0,af,rfl,Bv,R⟩
 case round =>
  clear hO R;obtain⟨j,hj,rfl,hO,kr⟩:=hrel;by_cases hlt:j<l.length
  ·have aP:(j:Int)<l.length:=af;obtain⟨J,X,cs,rfl,hcl,O,U,d⟩:=ed u j hlt ay;have Z:Hid (l.take (j+1)=l.take j++[l[j]]):=ae Im;have pw:=HS.aa _ (bS hlt);generalize l[j]=x at *;obtain⟨vf,F,rfl,G,H⟩:=O w (K.rf w);have HE:Hid (∀W,K w W->cV x.e (.agg (aD x.e vf F)) W):=ae λW k=>⟨_,_,rfl,eH _ _ _ _ G k,bo H k⟩
   have q:∀i,i<9->wr.cell? ⟨J,X+j*9+i,none⟩=(gE x vf F)[i]?:=λi hi=>(d wr kr i hi).trans Array.getElem?_toList
   have q0:wr.cell? ⟨J,X+j*9,none⟩=some (.int .i64 x.e.kind):=U wr kr;have C:=ah.new wr 128 (gE x vf F);have Y:=C.aS;obtain⟨Af,cf,rfl⟩:=b6 G;obtain⟨Ae,ce,rfl⟩:=aw H;clear d U G H O hcl;go_upto_region 7 with (fail);generalize wr.alloc _=D at *;generalize wr.heap.size=g5 at C⊢;replace hO:=hO.st Y;have t:=kr.tr Y;clear q q0;have q:=C.cells;have Q:=hO.blk;obtain⟨Ao,co,rfl⟩:=hO.slice;have hlen:(l.take j).length<=1000000:=aY;generalize l.take j=lj at *;have qs:=q;refine dD 8 [([],[]),([],[]),([1],[(18,1)]),([2],[(19,2)]),([],[]),([4],[(21,4)]),([3,5],[(20,3),(22,5)]),([6],[(23,6)]),([0,3,7],[(17,0),(24,7)]),([0,1,2,3,4,5,6,7,8],[(25,8)])] 28 ?_;iterate 3 refine au.i ?_
   refine au.op (LQ D.heap.size x.e) (V5 _ _) (λV W kW hp=>?_) ?_
   ·(try simp only[cd,aO,aQ,bW,bY,aJ]at hp)
    simp[bP,aE,List.lookup,hp,cN,execOp,aF,q,go_sem];refine (abH x.e _ W (HE.aa _ (t.tr kW)) pw).mono ?_;rintro e w4⟨v2,rfl,ho,k4⟩;exact agZ
   iterate 2 refine au.i ?_
   refine au.op (Zv D.heap.size x) (ax6 _ _) (λV W kW hp=>?_) ?_
   ·simp only[cd,aO,aQ,bW,bY,aJ]at hp;obtain⟨⟨nP,nQ,e3,hF⟩,E,-⟩:=hp;simp[bP,aE,List.lookup,e3,E,cN,execOp,aF,cM,go_sem];exact⟨nP,nQ,rfl,hF.mono λW h=>by
     obtain⟨jN,Eo,e,h1,h2⟩:=h;simp at e;obtain⟨rfl,rfl⟩:=e;exact⟨_,_,rfl,h1,h2⟩⟩
   refine au.row (N:=λk=>k<D.heap.size) (S:=cW) 123 _ 9 104 Js rfl ay _ x rfl rfl (λV W kW hp=>?_) ?_
   ·exact V6
   clear qs;intro V W kW hA;simp only[aO,aQ,cz,aJ,Nat.reduceAdd]at hA;obtain⟨L,e1,e2,h3,e4,E,h6,h7,-⟩:=hA;have T:=hO.st kW;refine aH.push _ _ 123 _ 9 104 Js rfl rfl rfl _ lj x (by simp[aE,List.lookup,L]) T ?_ af (bn t.size kW.size) ?_
   ·simp only[aE,List.lookup];exact h7.less λk hk=>by
     rcases hk with hk|hk
     ·have:=t.size;omega
     ·have:=Q k hk;omega
   intro v9 w9 I bB _ aZ;rw[<- Z.aa]at I;have ig:=(t.tr kW).trans aZ;obtain⟨A9,c9,rfl⟩:=I.slice;apply aH.pure;rfl;simp[aE,List.lookup,ba,execOp,aF,go_sem];rfl;refine aH.e ?_;clear T hO h3 h6 h7 L e1 e2 e4 E q Q;go_wp2;go_roundw
   case rel=>exact⟨j+1,af,bJ,by simpa only[nX]using I,ig⟩
   case measure=>simp[intOf];omega
  ·exact K5
structure rR(w:World)(T:TypeId)(z:Array Value)(cs:Nat->Value)(Φ:Nat->Array Value->Value->World->Prop)(L:Nat->Bool)(V:Nat->Value)(W:World):Prop where
 k:K w W
 pre:∀j,j<5->L j=true->V j=cs j
 al:L 9=true->∃b,V 9=.pointer (some ⟨b,0,none⟩)/\w.heap.size<=b/\(L 5=false->ah W b T z)
 got:L 5=true->∃xs c lo W1,V 5=.tuple #[.agg xs,c]/\w.heap.size<=lo/\W1.heap.size<=W.heap.size/\Φ lo xs c W/\(L 10=false->K W1 W/\Φ lo xs c W1) /\
  (L 6=true->V 6=.tuple #[.agg xs,c])/\(L 7=true->V 7=.agg xs)/\(L 8=true->V 8=c)/\(L 11=true->V 11=c) /\
  (L 9=true->∃b,V 9=.pointer (some ⟨b,0,none⟩)/\w.heap.size<=b/\(b<lo∨W1.heap.size<=b)/\ah W b T (cond (L 10) xs z))
section
variable {P:Program} {Q:Exit->Act->World->Prop}
theorem tF{L i j}(h:j≠i):upd L i j=L j:=by grind [upd]
theorem xX{V i j v}(h:j≠i):ba V i v j=V j:=by grind [ba]
theorem V7{V i v}:ba V i v i=v:=by grind [ba]
variable {w:World} {T:TypeId} {z:Array Value} {cs:Nat->Value} {Φ:Nat->Array Value->Value->World->Prop} {L:Nat->Bool} {V:Nat->Value} {W:World}
theorem rR.early(h:rR w T z cs Φ L V W) i(u:i<5):rR w T z cs Φ (upd L i) (ba V i (cs i)) W:=by
 refine⟨h.k,λj t hL=>?_,λhL=>?_,λhL=>?_⟩
 ·by_cases e:j=i
  ·grind [upd,ba]
  ·rw[xX e];exact h.pre j t V8
 ·exact ag0
 ·rw[tF af]at hL;obtain⟨xs,c,lo,W1,a⟩:=h.got hL;refine⟨xs,c,lo,W1,?_⟩;simp only[tF (show 10≠i by omega),tF (show 6≠i by omega),tF (show 7≠i by omega),tF (show 8≠i by omega),tF (show 11≠i by omega),tF (show 9≠i by omega),xX (show 5≠i by omega),xX (show 6≠i by omega),xX (show 7≠i by omega),xX (show 8≠i by omega),xX (show 11≠i by omega),xX (show 9≠i by omega)];exact a
theorem rR.call(h:rR w T z cs Φ L V W){W' xs c}(k:K W W')(A:Φ W.heap.size xs c W')(B:L 5=false)(h6:L 6=false)(h7:L 7=false)(h8:L 8=false)(ph:L 10=false)(vM:L 11=false):rR w T z cs Φ (upd L 5) (ba V 5 (.tuple #[.agg xs,c])) W':=by
 refine⟨h.k.tr k,λj hj t=>?_,λt=>?_,λ_=>⟨xs,c,W.heap.size,W',V7,h.k.size,aC _,A,λ_=>⟨K.rf _,A⟩,λt=>?_,λt=>?_,λt=>?_,λt=>?_,λt=>?_⟩⟩
 ·exact P5
 ·rw[tF af]at t;obtain⟨b,e,u,y⟩:=h.al t;grind [upd,ba]
 ·grind [upd,ba]
 ·grind [upd,ba]
 ·grind [upd,ba]
 ·grind [upd,ba]
 ·rw[tF af]at t;obtain⟨b,e,u,y⟩:=h.al t;rw[xX af];have hb:=y B;refine⟨b,e,u,.inl hb.lt,?_⟩;rw[tF af,ph];exact hb.av k
theorem rR.late(h:rR w T z cs Φ L V W) i v(H:i=6∨i=7∨i=8∨i=11)(A:L 5=true)(D:∀xs c,V 5=.tuple #[.agg xs,c]->v=if i=6 then .tuple #[.agg xs,c]else if i=7 then .agg xs else c):rR w T z cs Φ (upd L i) (ba V i v) W:=by
 refine⟨h.k,λj hj hL=>?_,λhL=>?_,λhL=>?_⟩
 ·exact P5
 ·exact ag0
 ·obtain⟨xs,c,lo,W1,u,C,B,y,E,F,I,M,N,J⟩:=h.got A;have G:=D xs c u;refine⟨xs,c,lo,W1,by grind [xX],C,B,y,λt=>E V8,λt=>?_,λt=>?_,λt=>?_,λt=>?_,λt=>?_⟩
  ·grind [upd,ba]
  ·grind [upd,ba]
  ·grind [upd,ba]
  ·grind [upd,ba]
  ·grind [upd,ba]
theorem rR.made(h:rR w T z cs Φ L V W)(D:∀lo xs c W W',Φ lo xs c W->K W W'->Φ lo xs c W')(ph:L 10=false):rR w T z cs Φ (upd L 9) (ba V 9 (.pointer (some ⟨W.heap.size,0,none⟩))) (W.alloc (.cells z T)):=by
 have k:=K.new W (.cells z T);have hb:=ah.new W T z;refine⟨h.k.tr k,λj hj u=>?_,λ_=>⟨_,V7,h.k.size,λ_=>hb⟩,λu=>?_⟩
 ·exact P5
 ·rw[tF af]at u;obtain⟨xs,c,lo,W1,E,C,y,B,A,F,G,I,J,H⟩:=h.got u;refine⟨xs,c,lo,W1,mh,C,bn y k.size,D _ _ _ _ _ B k,λt=>⟨(A ph).1.tr k,(A ph).2⟩,λt=>?_,λt=>?_,λt=>?_,λt=>?_,λ_=>⟨_,V7,h.k.size,.inr y,?_⟩⟩
  ·grind [upd,ba]
  ·grind [upd,ba]
  ·grind [upd,ba]
  ·grind [upd,ba]
  ·grind [upd,ba]
theorem rR.kept(h:rR w T z cs Φ L V W)(H:∀lo xs c W W',Φ lo xs c W->K W W'->Φ lo xs c W')(hlow:∀lo xs c W W' b,Φ lo xs c W->b<lo->ag (λk=>k=b) W W'->Φ lo xs c W')(I:L 5=true)(h9:L 9=true)(ph:L 10=false){W' b xs c}(C:V 5=.tuple #[.agg xs,c])(D:V 9=.pointer (some ⟨b,0,none⟩))(hb:ah W' b T xs)(hg:W.grownBy W' (some b)):rR w T z cs Φ (upd L 10) (ba V 10 undef) W':=by
 have u:ag (λk=>k=b) W W':=ag.eM hg λk e=>aG
 obtain⟨M,S,lo,W1,y,R,J,Z,E,X,a7,O,Q,F⟩:=h.got I;rw[C]at y;injection y with y;simp at y;obtain⟨rfl,rfl⟩:=y;obtain⟨N,t,Y,A,-⟩:=F h9;rw[D]at t;injection t with t;injection t with t;injection t with t _;subst t;obtain⟨G,p1⟩:=E ph;have U:Φ lo xs c W':=by
  rcases A with A|A
  ·grind
  ·exact H _ _ _ _ _ p1 (u.k G λk e=>af)
 refine⟨u.k h.k λk e=>af,λj hj B=>?_,λB=>?_,λB=>?_⟩
 ·exact P5
 ·grind [upd,ba]
 ·grind [upd,ba]
def BQ:List (List Nat):=[[],[0],[1],[2],[],[3,4],[5],[6],[6],[],[7,9],[8]]
def lB(P:Program)(j:Act)(ops:Array Oper)(t:List (List Nat×List (Nat×Nat)))(i:Nat)(V:Nat->Value)(W:World):Result Next :=
 match ops[i]?,t[i]? with
 | some o,some x=>(execOp (aE x.2 j V) (aF o.op o.type)).run P W
 | _,_=>.halt (.stuck "") W
theorem abp{id ops A w} T z(cs:Nat->Value)(Φ:Nat->Array Value->Value->World->Prop) B f args
 n (hn:A.tmps.size=n) (hm:P.follows .mixedOrders=true) (hok:sC ops n=true) (hpl:uI ops B=true) (hsz:ops.size=12) (jr:B.map (·.1)=BQ) (hgd:∀o∈ops.toList,o.guard=none)
 (xa:∀i,i<5->∀V W,K w W->(∀j∈(B.getD i ([],[])).1,V j=cs j)->lB P A ops B i V W=.ok (.value (cs i)) W)
 (hcall:∀V W,K w W->V 3=cs 3->V 4=cs 4->lB P A ops B 5 V W=.ok (.enter f args) W)
 (hC:∀W,K w W->Calls P f args W λe W'=>∃xs c,e=.returned (.tuple #[.agg xs,c])/\Φ W.heap.size xs c W'/\K W W')
 (h6:∀V W v,V 5=v->lB P A ops B 6 V W=.ok (.value v) W)
 (h7:∀V W xs c,V 6=.tuple #[.agg xs,c]->lB P A ops B 7 V W=.ok (.value (.agg xs)) W)
 (h8:∀V W xs c,V 6=.tuple #[.agg xs,c]->lB P A ops B 8 V W=.ok (.value c) W)
 (h9:∀V W,lB P A ops B 9 V W=.ok (.value (.pointer (some ⟨W.heap.size,0,none⟩))) (W.alloc (.cells z T)))
 (ph:∀V W b lo xs c W0,V 9=.pointer (some ⟨b,0,none⟩)->V 7=.agg xs->ah W b T z->Φ lo xs c W0->∃W',lB P A ops B 10 V W=.ok .skip W'/\ah W' b T xs/\W.grownBy W' (some b))
 (vM:∀V W c,V 8=c->lB P A ops B 11 V W=.ok (.value c) W)
 (hK:∀lo xs c W W',Φ lo xs c W->K W W'->Φ lo xs c W') (hlow:∀lo xs c W W' b,Φ lo xs c W->b<lo->ag (λk=>k=b) W W'->Φ lo xs c W')
 (fin:∀V W b xs c lo,K w W->(∀j,j<5->V j=cs j)->V 5=.tuple #[.agg xs,c]->V 6=.tuple #[.agg xs,c]->V 7=.agg xs->V 8=c->V 9=.pointer (some ⟨b,0,none⟩)->V 11=c->w.heap.size<=b->ah W b T xs->w.heap.size<=lo->Φ lo xs c W->Q .normal (fX V ops.toList 0 A) W) :
 (Code.region id ops true).wp P Q A w:=by
 have LH:∀(i:Nat) (o:Oper),ops[i]?=some o->∃x:List Nat×List (Nat×Nat),B[i]?=some x/\∀j∈x.1,j∈ahead o:=by
  intro i o X
  have h3:=List.all_eq_true.1 hpl (o,i) (List.mem_zipIdx_iff_getElem?.2 aG)
  cases N:B[i]? with
  | none=>simp only[N]at h3;cases h3
  | some x =>
   grind
 refine Tz (rR w T z cs Φ) n hn hm hok ⟨(K.rf w).drew,λ_ _ hj=>PC,λhj=>PC,λhj=>PC⟩ ?_ ?_
 ·intro i o X L V W M hcl hal u;have hlt:i<12:=aG;obtain⟨x,N,Gk⟩:=LH i o X;have hgo:=hgd o aG;have hex:execOp (yF ops A V o) o=execOp (aE x.2 A V) (aF o.op o.type):=by
   have h1:=List.all_eq_true.1 hpl (o,i) (List.mem_zipIdx_iff_getElem?.2 aG);simp only[N,dE]at h1;rw[<- TP];refine execOp_congr o (λcs b e=>aG) λy hy=>?_
   exact afz
  have Sm:(execOp (yF ops A V o) o).run P W=lB P A ops B i V W:=by rw[hex];unfold lB;rw[X,N]
  have hw:wants V o=true:=by unfold wants;rw[hgo]
  rw[if_pos hw,Sm];have hx1:x.1=BQ.getD i []:=by
   grind
  have C:=λj hj=>hal j (Gk j (by rw[hx1];exact hj))
  have hall:∀k o',ops[k]?=some o'->L k=true->∀j∈BQ.getD k [],L j=true:=λk o' nI hk j hj=>by
   obtain⟨y,hy,hya⟩:=LH k o' nI;have Ah:y.1=BQ.getD k []:=by
    grind
   exact hcl.1 k o' nI hk j (hya j (by rw[Ah];exact hj))
  have hb:∀k,k<12->∀j∈BQ.getD k [],L j=false->L k=false:=λk hk j hj hjL=>by
   cases p8:L k with
   | false=>rfl
   | true =>
    grind
  have J:∀k,k=6∨k=7∨k=8∨k=11∨k=10->(∀j∈BQ.getD k [],L j=true)->L 5=true:=λk hk hj=>by
   have E:=λh=>hall 6 _ (show ops[6]?=some ops[6] by simp) h 5 mM
   have I:=λh=>hall 7 _ (show ops[7]?=some ops[7] by simp) h 6 mM
   have H:=λh=>hall 8 _ (show ops[8]?=some ops[8] by simp) h 6 mM
   rcases hk with rfl|rfl|rfl|rfl|rfl
   ·exact hj 5 mM
   ·exact E (hj 6 mM)
   ·exact E (hj 6 mM)
   ·exact E (H (hj 8 mM))
   ·exact E (I (hj 7 mM))
  have Z:∀ {xs O:Array Value} {c R:Value},V 5=.tuple #[.agg xs,c]->V 5=.tuple #[.agg O,R]->xs=O/\c=R:=λe e'=>by
   grind
  by_cases hi5:i<5
  ·have hpx:(B.getD i ([],[])).1=BQ.getD i []:=by rw[List.getD_eq_getElem?_getD,N];exact hx1
   rw[xa i hi5 V W u.k λj hj=>by
    rw[hpx]at hj;refine u.pre j ?_ (C j hj);have:i=0∨i=1∨i=2∨i=3∨i=4:=af;rcases this with rfl|rfl|rfl|rfl|rfl <;> simp[BQ]at hj <;> omega]
   exact u.early i hi5
  have hi:i=5∨i=6∨i=7∨i=8∨i=9∨i=10∨i=11:=af;rcases hi with rfl|rfl|rfl|rfl|rfl|rfl|rfl
  ·have l6:=hb 6 af 5 mM M;have l7:=hb 7 af 6 mM l6;have l8:=hb 8 af 6 mM l6;have Y:=hb 10 af 7 mM l7;have l11:=hb 11 af 8 mM l8;rw[hcall V W u.k (u.pre 3 af (C 3 mM)) (u.pre 4 af (C 4 mM))];refine (hC W u.k).mono ?_;rintro e W'⟨xs,c,rfl,Ct,k⟩;exact⟨_,rfl,u.call k Ct M l6 l7 l8 Y l11⟩
  ·have D:=J 6 aj C;rw[h6 V W _ rfl];exact u.late 6 _ aj D λxs c e=>Bu
  ·have D:=J 7 aj C;obtain⟨xs,c,lo,W1,F,-,-,-,-,E,-⟩:=u.got D;rw[h7 V W xs c (E (C 6 mM))];exact u.late 7 _ aj D λO R e=>by rw[(Z F e).1];rfl
  ·have D:=J 8 aj C;obtain⟨xs,c,lo,W1,F,-,-,-,-,E,-⟩:=u.got D;rw[h8 V W xs c (E (C 6 mM))];exact u.late 8 _ aj D λO R e=>by rw[(Z F e).2];rfl
  ·have Y:=hb 10 af 9 mM M;rw[h9 V W];exact u.made hK Y
  ·have D:=J 10 aj C;obtain⟨xs,c,lo,W1,F,a1,a2,a3,a4,E,I,H,M9,a9⟩:=u.got D;obtain⟨b,U,aN,hb2,S⟩:=a9 (C 9 mM);rw[M]at S;obtain⟨W',hrun,hb',hg'⟩:=ph V W b lo xs c W U (I (C 7 mM)) S a3;rw[hrun];exact u.kept hK hlow D (C 9 mM) M F U hb' hg'
  ·have D:=J 11 aj C;obtain⟨xs,c,lo,W1,F,-,-,-,-,E,I,H,-⟩:=u.got D;rw[vM V W c (H (C 8 mM))];exact u.late 11 _ aj D λO R e=>by rw[(Z F e).2];rfl
 ·intro V W u;have G:∀j,j<12->decide (j<ops.size)=true:=λj hj=>by rw[hsz];simpa using hj
  obtain⟨xs,c,lo,W1,F,a1,a2,a3,a4,E,I,H,M9,a9⟩:=u.got (G 5 af);obtain⟨b,U,aN,hb2,S⟩:=a9 (G 9 af);rw[G 10 af]at S;exact fin V W b xs c lo u.k (λj hj=>u.pre j hj (G j af)) F (E (G 6 af)) (I (G 7 af)) (H (G 8 af)) U (M9 (G 11 af)) aN S a1 a3
end
section
variable {M:Nat->Prop} {p:nr} {B:bj} {w w':World}
theorem bA.log(h:bA M p B w){vd vr d}(t:R5 p.gl p.gd vd vr d w')(u:nM p.gl p.gd p.vd p.vr vd vr w w') :
 bA (λk=>M k∨bw { p with vd:=vd,vr:=vr } k) { p with vd:=vd,vr:=vr } { B with dk:=d } w'/\ag (bw p) w w'/\∀k,bw { p with vd:=vd,vr:=vr } k->bw p k∨w.heap.size<=k:=by
 obtain⟨F,E,A,D,C⟩:=h.apart
 have hn:∀k,bw { p with vd:=vd,vr:=vr } k->bw p k∨w.heap.size<=k:=λk hk=>by
  rcases hk with hk|hk|hk|hk
  ·exact .inl (.inl hk)
  ·exact .inl (.inr (.inl hk))
  ·exact .inl (.inr (.inr (.inl hk)))
  ·exact (u.new k hk).imp (λh=>.inr (.inr (.inr h))) id
 have hz:=u.up.size
 refine⟨⟨h.blk.aX u.up A,t,h.rep.aX u.up D,h.wm.aX u.up C,?_,λk hk=>.inr hk,λk hk=>?_,h.ne⟩,u.up.more λk hk=>.inr (.inr (.inr hk)),hn⟩
 ·have y:=h.bI.to (N:=λk=>M k∨bw { p with vd:=vd,vr:=vr } k) u.up (λk hk=>h.sub k (.inr (.inr (.inr hk)))) λk hk j=>j.elim id λj=>h.sub k ((hn k j).resolve_right af)
  exact y.mono λW d=>⟨d.par,d.ai,d.list,d.prom,d.ab,d.aB,d.fe,d.waits,d.bQ⟩
 ·rcases hk with hk|hk
  ·exact bz (h.low k hk) hz
  ·rcases hk with hk|hk|hk|hk
   ·exact bz (h.low k (h.sub k (.inl hk))) hz
   ·exact bz (h.low k (h.sub k (.inr (.inl hk)))) hz
   ·exact bz (h.low k (h.sub k (.inr (.inr (.inl hk))))) hz
   ·exact t.lt k hk
theorem bA.azR(h:bA M p B w){s vl vq va}(D:lE M s vl vq va w) :
 bA M { p with vl:=vl,vq:=vq,va:=va } { B with st:=s } (World.setCell (World.setCell (World.setCell (World.setCell w ⟨p.g,4,none⟩ (.int .u64 s.life)) ⟨p.g,5,none⟩ vl) ⟨p.g,6,none⟩ vq) ⟨p.g,7,none⟩ va):=by
 have g:=h.sub p.g (.inl rfl)
 have j:=h.cell (p':=p) (B':={ B with st:=⟨s.life,B.st.list,B.st.prom,B.st.ab⟩ }) 4 (.int .u64 s.life) (h.blk.aM 4 _) ⟨rfl,rfl,rfl,rfl,rfl,rfl,rfl,rfl⟩ ⟨rfl,rfl⟩ λW u d=>⟨d.par,d.ai,d.list,d.prom,d.ab,d.aB,d.fe,d.waits,d.bQ⟩
 have A:lE M s vl vq va _:=D.up (ag.bL (X:=M) g 4 (.int .u64 s.life)) λ_ h=>h
 have y:=j.cell (p':={ p with vl:=vl }) (B':={ B with st:=⟨s.life,s.list,B.st.prom,B.st.ab⟩ }) 5 vl (j.blk.aM 5 _) ⟨rfl,rfl,rfl,rfl,rfl,rfl,rfl,rfl⟩ ⟨rfl,rfl⟩ λW u d=>⟨d.par,d.ai,(A W u).1,d.prom,d.ab,d.aB,d.fe,d.waits,d.bQ⟩
 have t:lE M s vl vq va _:=A.up (ag.bL (X:=M) g 5 vl) λ_ h=>h
 have C:=y.cell (p':={ p with vl:=vl,vq:=vq }) (B':={ B with st:=⟨s.life,s.list,s.prom,B.st.ab⟩ }) 6 vq (y.blk.aM 6 _) ⟨rfl,rfl,rfl,rfl,rfl,rfl,rfl,rfl⟩ ⟨rfl,rfl⟩ λW u d=>⟨d.par,d.ai,d.list,(t W u).2.1,d.ab,d.aB,d.fe,d.waits,d.bQ⟩
 have E:lE M s vl vq va _:=t.up (ag.bL (X:=M) g 6 vq) λ_ h=>h
 exact C.cell (p':={ p with vl:=vl,vq:=vq,va:=va }) (B':={ B with st:=s }) 7 va (C.blk.aM 7 _) ⟨rfl,rfl,rfl,rfl,rfl,rfl,rfl,rfl⟩ ⟨rfl,rfl⟩ λW u d=>⟨d.par,d.ai,d.list,d.prom,(E W u).2.2,d.aB,d.fe,d.waits,d.bQ⟩
end
theorem avy{d r}(j:tG d r=true):nN (iW d) [bM r] d.room=(iW ⟨d.eT++[r],d.room⟩,0):=by
 simp only[tG,dE,decide_eq_true_eq]at j
 have t:=UK j.1
 have u:(iW d).length+(frames [bM r]).length<=d.room:=by
  grind [iW,OE,frames,Bm]
 unfold nN sW
 grind [tG,nN,iW,bM,frames]
theorem avz{d r}(t:tG d r=false):(nN (iW d) [bM r] d.room).1=iW d/\(nN (iW d) [bM r] d.room).2≠0:=by
 have j:¬((bM r).length<=4000/\iO d.eT+xu (bM r)<=d.room):=by grind [tG]
 unfold nN
 grind [bM,ib,sW,iW,OE,frames,Bm]
theorem arF{s r}(j:eo r=true)(h:dU s r=none):mj s r=(s,160):=by simp[mj,j,h]
theorem acF{s t r}(j:eo r=true)(h:dU s r=some t):mj s r=(t,0):=by simp[mj,j,h]
theorem atD{x}(h:eo x=true)(j:jT x):(bM x).length<=30000:=by
 have B:=cI (bf x.kind) (fW _);have C:=cI x.n j.2.1;have y:=cI (bf x.br) (fW _);have D:=cI x.life j.2.2.2.2.1;have A:=cI x.bV j.2.2.2.2.2;rcases zn h with ⟨hk,-⟩|⟨hk,t,-⟩|⟨hk,-⟩
 ·rw[ad0 hk];simp only[cF];omega
 ·have:=Ks t j.2.2.1;have u:=cI (eN x.e).length af;rw[adb af];simp only[cF,im];omega
 ·rw[ade hk];simp only[cF,fy];omega
def ayU(s:dc)(j:Int)(lo:Nat)(xs:Array Value)(c:Value)(W:World):Prop:=∃vl vp va,xs=cE s vl vp va/\c=.int .i64 j/\lE (λk=>k<lo) s vl vp va W
theorem Kc{M p B w}(h:bA M p B w)(hG:bD B) r u(hr:pk r u w)(hfit:jT r)(iz:eB r.e) :
 Calls prog 200 #[.pointer (some ⟨p.g,0,none⟩),u] w λe w'=>e=.returned (.bool (cY B r).2)/\dC M p (cY B r).1 w w':=by
 have HN:Hid (cY B r=if eo r&&tG B.dk r then (match dU B.st r with
  | none=>(B,false)
  | some t=>({ B with st:=t,dk:=⟨B.dk.eT++[r],B.dk.room⟩,aB:=if r.kind=2 then fJ B.aB (ar r.e)else B.aB },true))
  else (B,false)):=ae rfl
 have H:=ae h
 have HX:=ae λk hk=>h.low k (h.sub k hk)
 have HM:=ae h.low
 have C1:=ae λW (k:K w W)=>UE r u W (QB hr k) hfit
 have Yi:=hG.DD
 have jn:=hG.dk.len
 have C2:=ae λW (k:K w W)=>au4 B.st r (.agg (cE B.st p.vl p.vq p.va)) u W ⟨_,_,_,rfl,(h.bI.at k).list,(h.bI.at k).prom,(h.bI.at k).ab⟩ (QB hr k) hfit iz Yi.1 Yi.2.1 ⟨af,af,af⟩
 have q:=h.q
 have hs1:=aw h.bI.now.list
 have fC:=aw h.bI.now.prom
 have eU:=aw h.bI.now.ab
 have hs4:=aw h.bI.now.aB
 obtain⟨vf,ve,rfl,hf,he⟩:=hr
 obtain⟨Af,cf,rfl⟩:=b6 hf
 obtain⟨Ae,ce,rfl⟩:=aw he
 have hb:=ah.new w 197 (eS r (.slice Af r.e.f.length cf) (.slice Ae r.e.es.length ce))
 have k1:=hb.aS
 have HGO:=ae hG
 clear hf he Yi jn h hG
 generalize cY B r=R at *
 go_enter func200,ntmps200
 go_upto_region 1 with (fail)
 generalize w.alloc _=w1 at *
 generalize kp:w.heap.size=ga at hb⊢
 have lG:=ae kp
 clear kp
 have qa:=hb.cell
 go_wp2_with fail
 refine (C1.aa w1 k1).mono ?_
 rintro e w2⟨v2,rfl,dq,k2⟩
 have bC:=k1.tr k2
 have hb2:=hb.av k2
 clear C1 qa
 have HC:Hid (tD r=if eo r then 0 else 110):=ae rfl
 have HE:Hid (zx r=if eo r then bM r else []):=ae rfl
 generalize tD r=cc at *
 generalize zx r=eb at *
 cases hok:eo r
 ·have HR:Hid (R=(B,false)):=ae (by rw[HN.aa,hok];rfl);obtain rfl:cc=110:=by rw[HC.aa,hok];rfl
  have HF:=ae (H.aa.n bC);obtain⟨A2,c2,rfl,-⟩:=dq.slice;clear q hb hb2 dq;exact K6
 obtain rfl:cc=0:=by rw[HC.aa,hok];rfl
 obtain rfl:eb=bM r:=Vp
 obtain⟨A2,c2,rfl,-⟩:=dq.slice
 have wj:=ae dq
 have jO:=ae hok
 clear dq HC HE hok
 go_upto_region 4 with (fail)
 have q2:=λW (k:K w2 W)=>q W (bC.tr k)
 have qb:=hb2.cells
 have C3:=ae λW (k:K w2 W)=>C2.aa W (bC.tr k)
 obtain⟨y,hs'⟩:∃y,y=(mj B.st r).1:=⟨_,rfl⟩
 obtain⟨code,FJ⟩:∃c,c=(mj B.st r).2:=⟨_,rfl⟩
 simp only[<- hs',<- FJ]at C3
 have HST:=ae hs'
 have HCD:=ae FJ
 obtain⟨g,gl,gd,gr,gt,vd,vr,vp,vh,vl,vq,va,vt,O,vw,kr⟩:=p
 simp only at q2 hs1 fC eU hs4 C3
 obtain⟨Al,cl,rfl⟩:=hs1
 obtain⟨L,cq,rfl⟩:=fC
 obtain⟨E,U,rfl⟩:=eU
 obtain⟨N,ct,rfl⟩:=hs4
 have wg:=ae hb2
 clear q hb hb2 C2 hs' FJ
 refine abp 46 jq (λi=>[Value.pointer (some ⟨g,0,none⟩),.pointer (some ⟨g,0,none⟩),.pointer (some ⟨g,4,none⟩),.agg (cE B.st (.slice Al B.st.list.length cl) (.slice L B.st.prom.length cq) (.slice E B.st.ab.length U)),.agg (eS r (.slice Af r.e.f.length cf) (.slice Ae r.e.es.length ce))].getD i undef) (ayU y code)
  [([],[]),([0],[(16,0)]),([1],[(17,1)]),([2],[(18,2)]),([],[]),([3,4],[(19,3),(20,4)]),([5],[(21,5)]),([6],[(15,6)]),([6],[(15,6)]),([],[]),([7,9],[(7,9),(22,7)]),([8],[(23,8)])] 269 #[.agg (cE B.st (.slice Al B.st.list.length cl) (.slice L B.st.prom.length cq) (.slice E B.st.ab.length U)),.agg (eS r (.slice Af r.e.f.length cf) (.slice Ae r.e.es.length ce))] 52 rfl ef ef ef rfl rfl ?gd ?pre ?call ?cc ?h6 ?h7 ?h8 ?h9 ?ph ?vM ?hk ?hlow ?_
 case gd=>simp
 case pre => intro i hi V W kW hp;have:i=0∨i=1∨i=2∨i=3∨i=4:=af;rcases this with rfl|rfl|rfl|rfl|rfl <;> simp at hp <;> simp[lB,aE,List.lookup,hp,execOp,aF,q2,qb,kW,go_sem]
 case call=>intro V W kW h3 h4;simp at h3 h4;simp[lB,aE,List.lookup,h3,h4,execOp,aF,go_sem]
 case cc => intro W kW;refine (C3.aa W kW).mono ?_;rintro e w3⟨T,GH,S,rfl,A,k3⟩;exact⟨_,_,rfl,⟨T,GH,S,rfl,rfl,A⟩,k3⟩
 case h6=>intro V W v Y;simp[lB,aE,List.lookup,Y,execOp,aF,go_sem]
 case h7=>intro V W xs c Y;simp[lB,aE,List.lookup,Y,execOp,aF,go_sem]
 case h8=>intro V W xs c Y;simp[lB,aE,List.lookup,Y,execOp,aF,go_sem]
 case h9=>intro V W;simp[lB,execOp,aF,go_sem]
 case ph => rintro V W b lo xs c W0 e9 e7 hb⟨T,GH,S,rfl,-,A⟩;obtain⟨⟨D,I,rfl⟩,⟨G,F,rfl⟩,Z,fa,rfl⟩:=A.sl;have qz:=hb.cell;have zz:=hb.frozen;have u:=ag.sets (X:=λk=>k=b) rfl [.int .u64 y.life,.slice D y.list.length I,.slice G y.prom.length F,.slice Z y.ab.length fa] 0 W;exact⟨_,by simp[lB,aE,List.lookup,e9,e7,execOp,aF,qz,zz,go_sem];rfl,Fq (us:=[.int .u64 y.life,.slice D y.list.length I,.slice G y.prom.length F,.slice Z y.ab.length fa]) hb rfl,⟨u.os,u.tape,u.output,u.size,λk hk hne=>u.block k hk λe=>hne KU⟩⟩
 case vM=>intro V W c Y;simp[lB,aE,List.lookup,Y,execOp,aF,go_sem]
 case hk=>rintro lo xs c W W'⟨T,GH,S,a2,a3,A⟩ k;exact⟨T,GH,S,a2,a3,A.k k⟩
 case hlow=>rintro lo xs c W W' b⟨T,GH,S,a2,a3,A⟩ hb u;exact⟨T,GH,S,a2,a3,A.up u λk e=>e▸hb⟩
 intro V W b xs c lo kW hcs e5 e6 e7 e8 e9 pr bR hbk hlo Ct
 obtain⟨T,GH,S,rfl,rfl,A⟩:=Ct
 obtain⟨⟨D,I,rfl⟩,⟨G,F,rfl⟩,Z,fa,rfl⟩:=A.sl
 simp only[fX,Act.put,rJ,qM,qL,e5,e6,e7,e8,e9,pr]
 have ue:=bC.tr kW
 cases xI:dU B.st r with
 | none =>
  have HR:Hid (R=(B,false)):=ae (by rw[HN.aa,jO.aa,xI];split <;> rfl);obtain rfl:code=160:=by rw[HCD.aa,arF jO.aa xI]
  have HF:=ae (H.aa.n ue);clear hcs e5 e6 e7 e8 e9 pr hbk A q2 qb C3 xI;exact K6
 | some t =>
  obtain rfl:code=0:=by rw[HCD.aa,acF jO.aa xI]
  obtain rfl:y=t:=by rw[HST.aa,acF jO.aa xI]
  have HR:Hid (R=if tG B.dk r then ({ B with st:=y,dk:=⟨B.dk.eT++[r],B.dk.room⟩,aB:=if r.kind=2 then fJ B.aB (ar r.e)else B.aB },true)else (B,false)):=ae (by rw[HN.aa,jO.aa,xI];rfl);have Er:=H.aa.st ue;have C:=K.new W (.cells #[.slice A2 (bM r).length c2] 94);have Yj:∀k,jS gl gd vd vr k->k<w.heap.size:=λk hk=>HX.aa k (.inr (.inr (.inr hk)))
  have mI:=ue.size;have hz1:=k1.size;have jD:Fx (jS gl gd vd vr) (λW'=>aq jP [bM r] (.slice (some ⟨W.heap.size,0,none⟩) 1 1) W') (W.alloc (.cells #[.slice A2 (bM r).length c2] 94)):=λW' u=>by
   have hown:=iK (pA wj.aa (kW.tr C)) u λk hk hx=>by have:=(wj.aa.lt k hk).1;have:=Yj k hx;omega
   have aj8:=(ah.new W 94 #[.slice A2 (bM r).length c2]).aX u λhx=>V9
   refine⟨some ⟨W.heap.size,0,none⟩,1,rfl,⟨[[.slice A2 (bM r).length c2]],Each.one ⟨_,rfl,eK hown⟩,rfl,λ_=>⟨W.heap.size,0,rfl,aj8.lt,λj u hu=>?_⟩⟩,aj⟩;rw[mi,aj8.cell j];simpa using hu
  have bR:∀b∈[bM r],b.length<=1000000000:=λb hb=>by simp at hb;subst hb;exact bn (atD jO.aa hfit) af
  have C4:=ae (apl gl gd vd vr (.slice (some ⟨W.heap.size,0,none⟩) 1 1) (iW B.dk) B.dk.room [bM r] _ (Er.lg.st C) jD aj bR);have qW:=q2 W kW;have ox:=hbk.av C;have R4:=ae (H.aa.st (ue.tr C));have Nc:=ae (ue.tr C);have hne:Hid (tG B.dk r=false->(nN (iW B.dk) [bM r] B.dk.room).1=iW B.dk/\(nN (iW B.dk) [bM r] B.dk.room).2≠0):=ae avz;have hye:Hid (tG B.dk r=true->nN (iW B.dk) [bM r] B.dk.room=(iW ⟨B.dk.eT++[r],B.dk.room⟩,0)):=ae avy;generalize nN (iW B.dk) [bM r] B.dk.room=AP at *;obtain⟨al,ac⟩:=AP;have HSS:=ae A;clear Er jD bR A q2 qb C3 hcs e5 e6 e7 e8 e9 pr xI hbk;go_upto_region 7 with (fail);go_wp2_with fail
  refine C4.aa.mono ?_;rintro e w6⟨Zx,Zy,rfl,Jj,J⟩;cases mD:tG B.dk r
  ·have eZ:Hid (R=(B,false)):=ae ag1;obtain⟨e1,e2⟩:=hne.aa mD;subst e1;obtain⟨b1,b2,b3⟩:=R4.aa.log (d:=B.dk) Jj J;have HF:Hid (dC M ⟨g,gl,gd,gr,gt,vd,vr,vp,vh,.slice Al B.st.list.length cl,.slice L B.st.prom.length cq,.slice E B.st.ab.length U,.slice N B.aB.length ct,O,vw,kr⟩ B w w6):=ae (dC.y4 ⟨_,b1,b2,rfl,b3⟩ Nc.aa HX.aa);have e3:(ac != 0)=true:=by simpa using e2
   clear b1 b2 b3 Jj J C4 qW ox C mD e2;go_wp2;go_ret;exact⟨K0,by rw[eZ.aa];exact HF.aa⟩
  have eZ:Hid (R=({ B with st:=y,dk:=⟨B.dk.eT++[r],B.dk.room⟩,aB:=if r.kind=2 then fJ B.aB (ar r.e)else B.aB },true)):=ae ag1;obtain⟨rfl,rfl⟩:=Prod.mk.inj (hye.aa mD);obtain⟨b1,b2,b3⟩:=R4.aa.log (d:=⟨B.dk.eT++[r],B.dk.room⟩) Jj J;have hz2:=bC.size;have kp:=lG.aa;have hs6:lE (λk=>M k∨bw ⟨g,gl,gd,gr,gt,Zx,Zy,vp,vh,.slice Al B.st.list.length cl,.slice L B.st.prom.length cq,.slice E B.st.ab.length U,.slice N B.aB.length ct,O,vw,kr⟩ k) y (.slice D y.list.length I) (.slice G y.prom.length F) (.slice Z y.ab.length fa) w6:=by
   have h0:=HSS.aa.less λk (hk:k<w2.heap.size)=>bz hk hlo
   refine h0.to (X:=jS gl gd vd vr) ((ag.aT C _).tr J.up) (λk hk=>by have:=Yj k hk;omega) λk hk hx=>?_
   rcases hx with hx|hx
   ·have:=HM.aa k hx;omega
   ·rcases b3 k hx with hx|hx
    ·have:=HX.aa k hx;omega
    ·have:=C.size;omega
  have aj9:=ox.aX J.up λhx=>V9
  have jm:=(wg.aa.av (kW.tr C)).aX J.up λhx=>V9
  have Q:=b1.azR hs6;simp only at Q;have HU6:=ae ((ag.aT Nc.aa _).tr b2);have HN6:=ae b3;have q6:=b1.blk.cell;have z6:=b1.blk.frozen;have qs6:=aj9.cell;clear b2 b3 hs6 b1 Jj J C4 qW ox C hne hye mD;go_upto_region 10 with (fail);have u7:=(((ag.bL (X:=λk=>k=g) (W:=w6) rfl 4 (.int .u64 y.life)).tr (ag.bL (X:=λk=>k=g) rfl 5 (.slice D y.list.length I))).tr (ag.bL (X:=λk=>k=g) rfl 6 (.slice G y.prom.length F))).tr (ag.bL (X:=λk=>k=g) rfl 7 (.slice Z y.ab.length fa));have cP:=HX.aa g (.inl rfl);have iT:=jm.aX u7 af;generalize World.setCell (World.setCell (World.setCell (World.setCell w6 _ _) _ _) _ _) _ _=w7 at *;have JG:=ae (HU6.aa.tr (u7.more λk hk=>.inl hk));have Nd:=ae Nc.aa.size;have q7:=iT.cells;clear q6 z6 qs6 aj9 jm u7 iT;by_cases hk2:r.kind=2;rotate_left
  ·have Zz:Hid (R=({ B with st:=y,dk:=⟨B.dk.eT++[r],B.dk.room⟩ },true)):=ae (by rw[eZ.aa,if_neg hk2]);have ja:(r.kind==2)=false:=by simpa using hk2
   have HF:Hid (dC M ⟨g,gl,gd,gr,gt,vd,vr,vp,vh,.slice Al B.st.list.length cl,.slice L B.st.prom.length cq,.slice E B.st.ab.length U,.slice N B.aB.length ct,O,vw,kr⟩ { B with st:=y,dk:=⟨B.dk.eT++[r],B.dk.room⟩ } w w7):=ae ⟨⟨g,gl,gd,gr,gt,Zx,Zy,vp,vh,.slice D y.list.length I,.slice G y.prom.length F,.slice Z y.ab.length fa,.slice N B.aB.length ct,O,vw,kr⟩,Q,JG.aa,rfl,λk hk=>(HN6.aa k hk).imp id λh=>by have:=Nd.aa;omega⟩;have qk:=q7 w7 (K.rf _);clear Q q7 hk2;exact ag2
  have Zz:Hid (R=({ B with st:=y,dk:=⟨B.dk.eT++[r],B.dk.room⟩,aB:=fJ B.aB (ar r.e) },true)):=ae (by rw[eZ.aa,if_pos hk2]);have qk:=q7 w7 (K.rf _);have C5:=ae λW' (k:K w7 W')=>T6 B.aB (ar r.e) (.slice N B.aB.length ct) W' (Q.bI.at k).aB HGO.aa.tx.small HGO.aa.tx.zW
  have qg:=Q.blk.cells;simp only at qg;have HP:=ae Q;clear Q;go_upto_region 11 with (fail);clear qk;have qs:=And.intro q7 qg;refine dD 9 [([],[]),([],[]),([1],[(42,1)]),([2],[(43,2)]),([3],[(44,3)]),([],[]),([5],[(46,5)]),([6],[(47,6)]),([4,7],[(45,4),(48,7)]),([0,1,2,3,4,5,6,7,8],[(41,0)]),([0,1,2,3,4,5,6,7,8,9],[(50,9)]),([0,1,2,3,4,5,6,7,8,10],[(51,10),(49,8)])] 52 ?_;iterate 8 refine au.i ?_
  refine au.op (λv W'=>aV w7.heap.size w7.heap.size 128 cW (fJ B.aB (ar r.e)) v W') (λ_ _ _ h k=>h.st k) (λV W kW hp=>?_) ?_
  ·(try simp only[cd,aO,aQ,bW,bY,aJ]at hp)
   simp[bP,aE,List.lookup,hp,cN,execOp,aF,q7,qg,go_sem];exact Wb
  clear qs;intro V W kW hA;simp only[aO,aQ,cz,aJ,Nat.reduceAdd]at hA;obtain⟨d0,d1,d2,d3,d4,d5,d6,d7,ij,-⟩:=hA;generalize Cu:V 8=v8 at *;have ry:=HP.aa.st kW;have iB:=ij.Jv HP.aa.low;obtain⟨A8,c8,rfl⟩:=aw ij.aq;have q8:=ry.blk.cell;have z8:=ry.blk.frozen;simp only at q8 z8;iterate 2 (apply aH.pure;rfl;(simp[aE,List.lookup,ba,d0,Cu,execOp,aF,go_sem];rfl))
  refine aH.skip (W.setCell ⟨g,8,none⟩ (.slice A8 (fJ B.aB (ar r.e)).length c8)) rfl Wc ?_;refine aH.e ?_;have AY:=ry.LO iB;have Nf:=JG.aa.tr (((ag.aT kW _).tr (ag.bL (X:=bw ⟨g,gl,gd,gr,gt,vd,vr,vp,vh,.slice Al B.st.list.length cl,.slice L B.st.prom.length cq,.slice E B.st.ab.length U,.slice N B.aB.length ct,O,vw,kr⟩) (.inl rfl) 8 (.slice A8 (fJ B.aB (ar r.e)).length c8))));have HF:Hid (dC M ⟨g,gl,gd,gr,gt,vd,vr,vp,vh,.slice Al B.st.list.length cl,.slice L B.st.prom.length cq,.slice E B.st.ab.length U,.slice N B.aB.length ct,O,vw,kr⟩ { B with st:=y,dk:=⟨B.dk.eT++[r],B.dk.room⟩,aB:=fJ B.aB (ar r.e) } w (W.setCell ⟨g,8,none⟩ (.slice A8 (fJ B.aB (ar r.e)).length c8))):=ae ⟨⟨g,gl,gd,gr,gt,Zx,Zy,vp,vh,.slice D y.list.length I,.slice G y.prom.length F,.slice Z y.ab.length fa,.slice A8 (fJ B.aB (ar r.e)).length c8,O,vw,kr⟩,AY,Nf,rfl,λk hk=>(HN6.aa k hk).imp id λh=>by have:=Nd.aa;omega⟩;clear AY Nf ry iB ij q8 z8 q7 qg C5 d0 d1 d2 d3 d4 d5 d6 d7 Cu;exact ag2
theorem ab4{M p B w}(h:bA M p B w)(j:bD B) x u(C:cV x u w)(hfit:cD x)(U:eB x) :
 Calls prog 138 #[.pointer (some ⟨p.g,0,none⟩),u] w λe w'=>e=.returned (.bool (mq B x).2)/\dC M p (mq B x).1 w w':=by
 have Z:=ae λk hk=>h.low k (h.sub k hk)
 have L:=j.dk.len
 have y:=ae λW (k:K w W) v (O:pk (mr B.st.list.length x) v W)=>Kc (h.st k) j (mr B.st.list.length x) v O ⟨P6,by simp only[mr];omega,hfit,P6,zC,zC⟩ U
 have H:=ae λW (k:K w W)=>Lj C k
 have q:=h.q
 have A:=aw h.bI.now.list
 obtain⟨vf,ve,rfl,F,G⟩:=C
 obtain⟨X,Y,rfl⟩:=b6 F
 obtain⟨Ae,T,rfl⟩:=aw G
 have hb:=ah.new w 126 (aD x (.slice X x.f.length Y) (.slice Ae x.es.length T))
 have J:=hb.aS
 obtain⟨g,gl,gd,gr,gt,vd,vr,vp,vh,vl,vq,va,vt,jN,vw,kr⟩:=p
 simp only at q A
 obtain⟨Al,cl,rfl⟩:=A
 have S:IntKind.u64.wrap ((B.st.list.length:Int))=(B.st.list.length:Int):=by rw[IntWalk.u64_in _ (by omega)]
 unfold mq
 generalize cY B (mr B.st.list.length x)=R at *
 clear h j F G L
 go_enter func138,ntmps138
 go_upto_region 1 with (fail)
 generalize w.alloc _=Q at *
 generalize w.heap.size=ga at hb⊢
 have E:=hb.cells
 have I:=λW (k:K Q W)=>q W (J.tr k)
 clear q hb
 have qs:=And.intro I (And.intro E S)
 refine dD 10 [([],[]),([],[]),([1],[(6,1)]),([2],[(7,2)]),([3],[(8,3)]),([4],[(9,4)]),([5],[(10,5)]),([6],[(11,6)]),([],[]),([7,8],[(12,7),(13,8)]),([0,9],[(5,0),(14,9)]),([0,1,2,3,4,5,6,7,8,9,10],[(15,10)])] 16 ?_
 iterate 10 refine au.i ?_
 clear qs
 intro V W kW hA
 simp only[aO,aQ,cz,aJ,Nat.reduceAdd]at hA
 obtain⟨e0,e1,e2,e3,e4,e5,e6,e7,e8,e9,-⟩:=hA
 have t:=J.tr kW
 refine aH.call _ _ rfl agW ?_
 refine (y.aa W t _ ?_).mono ?_
 ·obtain⟨AK,AL,e,h1,h2⟩:=H.aa W t;exact PL
 rintro e w5⟨rfl,D⟩
 refine⟨_,rfl,?_⟩
 have N:=ae (D.y4 t Z.aa)
 apply aH.pure
 rfl
 simp[aE,List.lookup,ba,execOp,aF,go_sem]
 rfl
 refine aH.e ?_
 clear D y H I E
 go_wp2
 go_ret
 exact⟨V3,N.aa⟩
theorem aeb{B r}(h:(cY B r).2=false):(cY B r).1=B:=by
 unfold cY at h⊢;split
 ·split
  ·rfl
  ·rename_i j _ _ t;rw[if_pos j]at h;simp only[t]at h;cases h
 ·rfl
theorem avA{B r}(h:r.kind≠2):(cY B r).1.aB=B.aB:=by
 unfold cY;split
 ·split
  ·rfl
  ·simp[h]
 ·rfl
theorem aoX{M p B w}(h:bA M p B w)(G:bD B) a(L:eu a) :
 Calls prog 139 #[.pointer (some ⟨p.g,0,none⟩),bU a] w λe w'=>e=.returned (.bool (nA B a).2)/\dC M p (nA B a).1 w w':=by
 have T:Hid (nA B a=if (cY B (jj 4 a)).2 then ({ (cY B (jj 4 a)).1 with aB:=fJ (cY B (jj 4 a)).1.aB a },true)else (B,false)):=ae rfl
 have HX:=ae λk hk=>h.low k (h.sub k hk)
 have nO:=ae (@aeb B (jj 4 a))
 have HTX:Hid ((cY B (jj 4 a)).1.aB=B.aB):=ae (avA Du)
 have Q:∀W,pk (jj 4 a) (.agg (eS (jj 4 a) (.slice none 0 0) (.slice none 0 0))) W:=λW=>⟨_,_,rfl,⟨none,0,rfl,Reads.nil _ _ _ _⟩,gh _ _⟩
 have u:=ae λW (k:K w W)=>Kc (h.st k) G (jj 4 a) _ (Q W) ⟨by simp[jj,cJ],Du,Hz,L.1,L.2.1,L.2.2⟩ (by simp[jj,eB,dz])
 have Z:=ae G.tx
 have hb:=ah.new w 26 #[.int .i64 a.1,.int .u64 a.2.1,.int .u64 a.2.2]
 have F:=hb.aS
 generalize nA B a=R at *
 generalize cY B (jj 4 a)=NB at *
 obtain⟨j,ok⟩:=NB
 simp only[jj,eS,dz]at u
 clear h G Q
 go_enter func139,ntmps139
 go_upto_region 1 with (fail)
 generalize w.alloc _=w1 at *
 generalize O:w.heap.size=ga at hb⊢
 have MU:=ae O
 clear O
 have Y:=hb.cell
 go_wp2_with fail
 refine (u.aa w1 F).mono ?_
 rintro e N⟨rfl,A⟩
 cases ok
 ·have HR:Hid (R=(B,false)):=ae (by rw[T.aa];rfl);obtain rfl:j=B:=nO.aa rfl;have HF:=ae (A.y4 F HX.aa);clear A u Y;exact K6
 have HR:Hid (R=({ j with aB:=fJ j.aB a },true)):=ae (by rw[T.aa];rfl)
 have O:=MU.aa
 have hb2:=A.keeps hb λhx=>V4
 obtain⟨p1,t,hu,hg,hn⟩:=A
 have C5:=ae λW (k:K N W)=>T6 j.aB a p1.vt W (t.bI.at k).aB (by rw[HTX.aa];exact Z.aa.small) (by rw[HTX.aa];exact Z.aa.zW)
 have hs4:=aw t.bI.now.aB
 have C:=t.q
 have GK:=ae t
 have HU:=ae hu
 have EA:=ae hn
 rw[<- AW hg]
 have S:=ae hg
 have H:=hb2.cells
 obtain⟨J,gl,gd,gr,gt,vd,vr,vp,vh,vl,vq,va,vt,jN,vw,kr⟩:=p1
 simp only at C C5 hs4
 obtain⟨At,ct,rfl⟩:=hs4
 clear t hu hn hg u Y hb hb2
 go_upto_region 3 with (fail)
 have qs:=And.intro C H
 refine dD 7 [([],[]),([],[]),([1],[(11,1)]),([2],[(12,2)]),([3],[(13,3)]),([],[]),([4,5],[(14,4),(15,5)]),([0,1,2,3,4,5,6],[(10,0)]),([0,1,2,3,4,5,6,7],[(17,7)]),([0,1,2,3,4,5,6,8],[(18,8),(16,6)])] 19 ?_
 iterate 6 refine au.i ?_
 refine au.op (λv W'=>aV N.heap.size N.heap.size 128 cW (fJ j.aB a) v W') (λ_ _ _ h k=>h.st k) (λV W kW hp=>?_) ?_
 ·(try simp only[cd,aO,aQ,bW,bY,aJ]at hp)
  simp[bP,aE,List.lookup,hp,cN,execOp,aF,C,H,go_sem];exact Wb
 clear qs
 intro V W kW hA
 simp only[aO,aQ,cz,aJ,Nat.reduceAdd]at hA
 obtain⟨d0,d1,d2,d3,d4,d5,I,-⟩:=hA
 generalize Cu:V 6=v8 at *
 have y:=GK.aa.st kW
 have iB:=I.Jv GK.aa.low
 obtain⟨D,E,rfl⟩:=aw I.aq
 have q8:=y.blk.cell
 have z8:=y.blk.frozen
 simp only at q8 z8
 iterate 2 (apply aH.pure;rfl;(simp[aE,List.lookup,ba,d0,Cu,execOp,aF,go_sem];rfl))
 refine aH.skip (W.setCell ⟨J,8,none⟩ (.slice D (fJ j.aB a).length E)) rfl Wc ?_
 refine aH.e ?_
 have U:=y.LO iB
 have Nf:=(ag.aT F _).tr (HU.aa.tr (((ag.aT kW _).tr (ag.bL (X:=bw p) (.inl (by have:=AW S.aa;exact this)) 8 (.slice D (fJ j.aB a).length E)))))
 have HF:Hid (dC M p { j with aB:=fJ j.aB a } w (W.setCell ⟨J,8,none⟩ (.slice D (fJ j.aB a).length E))):=ae ⟨⟨J,gl,gd,gr,gt,vd,vr,vp,vh,vl,vq,va,.slice D (fJ j.aB a).length E,jN,vw,kr⟩,U,Nf,S.aa,λk hk=>(EA.aa k hk).imp id λh=>bn F.size h⟩
 clear U Nf y iB I q8 z8 C H C5 d0 d1 d2 d3 d4 d5 Cu
 go_wp2
 go_ret
 exact⟨fE,FA⟩
def xJ:dW fw where
 size:=8
 rel m cs w:=∃j t C A y B,cs=(km m j t C A y B).toList/\aq nL m.cK j w/\aq aU m.asks t w/\aq aU m.entries C w/\aq aU m.fc A w/\aq b5 m.dN y w/\aq b5 m.ends B w
 len:=by rintro _ _ _⟨j,t,C,A,y,B,rfl,_⟩;rfl
 one:=by rintro x _ _⟨j,t,C,A,y,B,rfl,D,E,H,F,G,h6⟩ u hu;obtain⟨_,_,rfl⟩:=aw D;obtain⟨_,_,rfl⟩:=aw E;obtain⟨_,_,rfl⟩:=aw H;obtain⟨_,_,rfl⟩:=aw F;obtain⟨_,_,rfl⟩:=aw G;obtain⟨_,_,rfl⟩:=aw h6;exact ae9
 st:=by rintro _ _ _ _⟨j,t,C,A,y,B,rfl,D,E,H,F,G,h6⟩ k;exact⟨_,_,_,_,_,_,rfl,bo D k,bo E k,bo H k,bo F k,bo G k,bo h6 k⟩
abbrev Cv:Array Value:=#[.int .i64 0,.int .u64 0,.slice none 0 0,.slice none 0 0,.slice none 0 0,.slice none 0 0,.slice none 0 0,.slice none 0 0]
theorem ayV W:lF yr (.agg Cv) W:=⟨_,_,_,_,_,_,rfl,gh _ _,gh _ _,gh _ _,gh _ _,gh _ _,gh _ _⟩
theorem B4.look{l ak W}(h:B4 l ak W) k:lF (((l.find? λp=>decide (p.1=k)).map (·.2)).getD yr) ((di ak k).getD (.agg Cv)) W:=by
 have key:∀(l:List (Int×fw)) (ak:List (Int×Value)) (i:Nat),B4 l ak W->lF (((l.find? λp=>decide (p.1=k)).map (·.2)).getD yr) (((fR k ak i).map (·.2)).getD (.agg Cv)) W:=by
  intro l
  induction l with
  | nil => intro ak i h;have:ak=[]:=List.eq_nil_of_length_eq_zero h.1;subst this;exact ayV W
  | cons q l y =>
   intro ak i h
   cases ak with
   | nil=>have:=h.1;simp at this
   | cons p ak =>
    have t:=h.2 0 aj aj;simp only[List.getElem_cons_zero]at t;have u:B4 l ak W:=⟨by have:=h.1;simpa using this,λj B C=>by
     have:=h.2 (j+1) aG aG;simpa using this⟩
    unfold fR;by_cases e:q.1=k
    ·rw[List.find?_cons_of_pos KW,if_pos (t.1.trans e)];exact t.2
    ·rw[List.find?_cons_of_neg KW,if_neg (λA=>e (t.1.symm.trans A))];exact y ak (i+1) u
 exact key l ak 0 h
theorem ajl W:(zeroValue 156).run prog W=.ok (.agg Cv) W:=by rfl
theorem ax7:(prog.info? 156).map (λi=>(i.zero,i.size,i.bytes))=some (some (.agg Cv),8,160):=by rfl
theorem TMs:fK prog 164 156 (.agg Cv) 8 160:=⟨underlying164,ax7,rfl,ay⟩
section
variable {α:Type} {S:dW α} {M N X Y:Nat->Prop} {base:Nat} {e:TypeId} {l:List α} {v:Value} {w w':World}
def iX(M:Nat->Prop)(S:dW α)(l:List α)(v:Value)(w:World):Prop :=
 ∃A c css,v=.slice A l.length c/\l.length<=c/\Reads w w.heap.size S.size A l.length css.flatten/\css.length=l.length/\(l≠[]->0<S.size->∀b j,A=some ⟨b,j,none⟩->¬M b)/\∀W,ag M w W->Each S l css W
theorem iX.aq(h:iX M S l v w):Go.Proofs.YtfndfpdhlbmboaaGreat.aq S l v w:=by obtain⟨A,c,css,rfl,t,j,y,-,u⟩:=h;exact⟨A,c,rfl,⟨css,u w (ag.rf _ _),j⟩,t⟩
theorem iX.slice(h:iX M S l v w):∃A c,v=.slice A l.length c:=aw h.aq
theorem iX.st(h:iX M S l v w)(k:K w w'):iX M S l v w':=by obtain⟨A,c,css,rfl,t,j,B,hn,y⟩:=h;exact⟨A,c,css,rfl,t,(j.below k (aC _)).more k.size,B,hn,λW u=>y W ((ag.aT k _).tr u)⟩
theorem iX.to(h:iX M S l v w)(u:ag X w w')(F:∀k,X k->M k)(G:∀k,k<w.heap.size->N k->M k)(V:0<S.size):iX N S l v w':=by
 obtain⟨A,c,css,rfl,P,t,R,hn,L⟩:=h;have T:Reads w' w'.heap.size S.size A l.length css.flatten:=by
  refine⟨t.1,λD=>?_⟩;obtain⟨b,C,e,hb,U⟩:=t.2 D;refine⟨b,C,e,bz hb u.size,λj x E=>?_⟩;have Q:l≠[]:=by intro e;have:=t.1;rw[e]at this;simp only[List.length_nil,Nat.zero_mul]at this;omega
  have y:=hn Q V b C e;rw[<- U j x E];exact World.cell?_of_block (u.block b hb λE=>y (F b E))
 exact⟨A,c,css,rfl,P,T,R,λy I b C H O=>by
  have D:0<css.flatten.length:=by rw[t.1];exact Nat.mul_pos (List.length_pos_iff.2 y) I
  obtain⟨Y,Z,B,hb,-⟩:=t.2 D;rw[H]at B;injection B with B;injection B with e1 e2;subst e1;exact hn y I b C H (G b hb O),λW J=>L W ((u.more F).gg J G)⟩
theorem iX.fx(h:iX M S l v w)(j:0<S.size):Fx M (λW=>Go.Proofs.YtfndfpdhlbmboaaGreat.aq S l v W) w:=λ_ u=>(h.to u (λ_ h=>h) (λ_ _ h=>h) j).aq
theorem iX.nil M(S:dW α) w:iX M S [] (.slice none 0 0) w:=⟨none,0,[],rfl,aC _,Reads.nil _ _ _ _,rfl,λh=>absurd rfl h,λ_ _=>Each.nil _ _⟩
theorem iX.at(h:iX M S l v w) i(C:i<l.length)(J:0<S.size):∃b t c cs,v=.slice (some ⟨b,t,none⟩) l.length c/\¬M b/\cs.length=S.size/\Fx M (λW=>S.rel l[i] cs W) w/\∀W,ag M w W->∀j,j<S.size->W.cell? ⟨b,t+i*S.size+j,none⟩=cs[j]?:=by
 obtain⟨A,c,css,rfl,Q,E,T,hn,B⟩:=h;obtain⟨cs,N,F,O,G⟩:=(B w (ag.rf _ _)).get i C;have D:0<css.flatten.length:=by
  grind
 obtain⟨b,t,rfl,hb,I⟩:=E.2 D;have y:=hn aG J b t rfl;refine⟨b,t,c,cs,rfl,y,F,λW u=>?_,λW u j H=>?_⟩
 ·obtain⟨V,R,L,X,U⟩:=(B W u).get i C;grind
 ·have:=G j H;rw[List.getElem?_eq_getElem (show j<cs.length by omega)]at this⊢;rw[Nat.add_assoc,<- I _ _ this];exact World.cell?_of_block (u.block b hb y)
theorem aA.GM(h:aA Y base e S l v w)(A:∀k,N k->Y k∨v.ownBlock=some k)(hb:∀k,v.ownBlock=some k->¬N k):iX N S l v w:=by
 obtain⟨css,j,y,B⟩:=h;have t:=j;rcases j.2 with ⟨rfl,C⟩|⟨g,cap,cur,rfl,_,_,hn,_⟩
 ·grind [List.eq_nil_of_length_eq_zero,iX.nil]
 ·refine⟨_,_,css,rfl,hn,Reads.uH t,y,λ_ _ b D e=>?_,λW u=>B W (u.more A)⟩;injection e with e;injection e with e1 e2;subst e1;exact hb g rfl
theorem aoY{b i u x}(h:w.cell? ⟨b,i,none⟩=some u):(w.setCell ⟨b,i,none⟩ x).cell? ⟨b,i,none⟩=some x:=by
 unfold World.cell? at h⊢
 revert h
 cases hb:w.heap[b]? with
 | none=>simp
 | some o =>
  cases o <;> simp[World.setCell,Array.getElem?_modify,hb]
  grind
theorem Fx.fix(h:Fx M (λW=>aq S l v W) w)(hs:0<S.size)(hS:∀x cs W,S.rel x cs W->cs[0]?≠some (.bool true)):iX M S l v w:=by
 obtain⟨A,c,rfl,⟨css,hE,y⟩,hc⟩:=h.now;have U:l≠[]->0<S.size->∀b E,A=some ⟨b,E,none⟩->¬M b:=by
  rintro C-b E rfl hM
  have hp:=List.length_pos_iff.2 C
  obtain⟨cs,T,N,g3,g4⟩:=hE.get 0 hp
  have F:0<css.flatten.length:=aG
  obtain⟨X,Z,e,hb,Q⟩:=y.2 F
  injection e with e
  injection e with e1 e2
  subst e1 e2
  have hc0:=Q 0 _ (List.getElem?_eq_getElem F)
  obtain⟨A',c',t,⟨D,B,hR'⟩,-⟩:=h (w.setCell ⟨b,E+0,none⟩ (.bool true)) (ag.bL hM _ _)
  injection t with t _ _
  subst t
  have I:0<D.flatten.length:=ag3
  obtain⟨b'',aDU,L,-,R⟩:=hR'.2 I
  injection L with L
  injection L with e1 e2
  subst e1 e2
  have azS:=R 0 _ (List.getElem?_eq_getElem I)
  rw[aoY hc0]at azS
  obtain⟨cs',f1,f2,f3,f4⟩:=B.get 0 hp
  grind
 refine⟨A,c,css,rfl,hc,y,hE.1,U,λW u=>?_⟩;obtain⟨A',c',t,⟨D,B,hR'⟩,-⟩:=h W u;injection t with t _ _;subst t;by_cases C:l=[]
 ·subst C;have:=hE.1;simp at this;subst this;exact Each.nil _ _
 have hp:=List.length_pos_iff.2 C;have F:0<css.flatten.length:=by rw[y.1];exact Nat.mul_pos hp hs
 have I:0<D.flatten.length:=ag3;obtain⟨b,E,rfl,hb,Q⟩:=y.2 F;obtain⟨X,Z,e,hb',R⟩:=hR'.2 I;injection e with e;injection e with e1 e2;subst e1 e2;have heq:css.flatten=D.flatten:=by
  refine List.ext_getElem (by rw[y.1,hR'.1]) λj h1 O=>?_
  have T:=Q j _ (List.getElem?_eq_getElem h1);have N:=R j _ (List.getElem?_eq_getElem O);rw[World.cell?_of_block (u.block b hb (U C hs b E rfl)),T]at N;injection N
 have:css=D:=by
  refine List.ext_getElem (by rw[hE.1,B.1]) λi h1 O=>?_
  obtain⟨cs,H,a2,a3,a4⟩:=hE.get i ag4;obtain⟨cs',G,b2,b3,V⟩:=B.get i ag4;rw[List.getElem?_eq_getElem h1]at H;rw[List.getElem?_eq_getElem O]at G;injection H with H;injection G with G;rw[H,G];refine List.ext_getElem af λj h3 h4=>?_
  have J:=a4 j af;have Y:=V j af;rw[heq,Y,List.getElem?_eq_getElem h3,List.getElem?_eq_getElem h4]at J;injection J with J;exact J.symm
 rw[this];exact B
end
abbrev Yk(x:lA)(vf:Value):List Value:=[.int .i64 x.cl,.int .u64 (x.sub:Int),vf]
abbrev mz(x:lA)(vf:Value):Array Value:=#[.int .i64 x.cl,.int .u64 (x.sub:Int),vf]
def iu:dW lA where
 size:=3
 rel x cs w:=∃vf,cs=Yk x vf/\fu x.f vf w
 len:=by rintro _ _ _⟨vf,rfl,_⟩;rfl
 one:=by rintro x _ _⟨vf,rfl,A,c,rfl,_⟩ u j;simp at j;rcases j with rfl|rfl|rfl <;> rfl
 st:=by rintro _ _ _ _⟨vf,rfl,h⟩ k;exact⟨vf,rfl,eH _ _ _ _ h k⟩
def sub(x:lA)(v:Value)(w:World):Prop:=∃vf,v=.agg (mz x vf)/\fu x.f vf w
theorem ajm{x v w w'}(h:sub x v w)(k:K w w'):sub x v w':=by obtain⟨vf,rfl,h⟩:=h;exact⟨vf,rfl,eH _ _ _ _ h k⟩
theorem ax8:(prog.info? 246).map (λi=>(i.zero,i.size,i.bytes))=some (some (.agg #[.int .i64 0,.int .u64 0,.slice none 0 0]),3,40):=by kernel_rfl
theorem Sn:fK prog 132 246 (.agg #[.int .i64 0,.int .u64 0,.slice none 0 0]) 3 40:=⟨underlying132,ax8,rfl,ay⟩
theorem Ke{α:Type} q(l:List α) j(h:j<l.length):(l.take (j+1)).filter q=(l.take j).filter q++(if q l[j]then [l[j]]else []):=by rw[gj h,List.filter_append];by_cases t:q l[j] <;> simp[t]
theorem E6 M l v q(f:Nat) cs w(h:iX M iu l v w)(hlen:l.length<=1000000)(hf:∀args W,(callFunc f args).run prog W=.ok (.enter f args) W)
 (Y:∀W,K w W->∀x∈l,∀u,sub x u W->Calls prog f (#[u]++cs) W λe W'=>e=.returned (.bool (q x))/\K W W') :
 Calls prog 167 #[v,.func (.func f) #[] cs] w λe w'=>∃v',e=.returned v'/\aA M w.heap.size 246 iu (l.filter q) v' w'/\K w w':=by
 have H:=ae h
 have HC:=ae Y
 have V:=K.rf w
 have hO:=aA.nil M w.heap.size 246 iu w
 obtain⟨A,c,rfl⟩:=h.slice
 clear h Y
 go_enter func167,ntmps167
 go_wp2_with fail
 go_loopw [5,7,10] (fun o _ i W=>∃j:Nat,j<=l.length/\i=.int .i64 j/\aA M w.heap.size 246 iu ((l.take j).filter q) o W/\K w W) (fun _ _ i _=>l.length-(intOf i).toNat)
 case atStart=>exact⟨0,af,rfl,Bv,V⟩
 case round =>
  clear hO V;obtain⟨j,hj,rfl,hO,kr⟩:=hrel;by_cases G:j<l.length
  ·have aP:(j:Int)<l.length:=af;obtain⟨b,off,c',cs1,F,sQ,hcl,I,d⟩:=H.aa.at j G ay;injection F with F _ e2;subst F e2;have HT:=ae (Ke q l j G);have hm:=bS G;generalize l[j]=x at *;obtain⟨vf,rfl,C⟩:=I.now;have R:Fx (λk=>M k∨w.heap.size<=k) (λW=>iu.rel x (Value.agg (mz x vf)).cells.toList W) wr:=I.to (X:=λ_=>False) (ag.aT kr _) (λ_ h=>h.elim) λk hk t=>t.resolve_right af
   have dd:∀i,i<3->wr.cell? ⟨b,off+j*3+i,none⟩=(mz x vf)[i]?:=λi hi=>(d wr (ag.aT kr _) i hi).trans Array.getElem?_toList
   have d0:wr.cell? ⟨b,off+j*3,none⟩=some (.int .i64 x.cl):=dd 0 ay;have t:=ah.new wr 246 (mz x vf);have y:=t.aS;obtain⟨D,E,rfl⟩:=b6 C;have J:=kr.tr y;have U:=hO.st y;have Q:=R.k y;have O:=ae (HC.aa _ J x hm (.agg (mz x (.slice D x.f.length E))) ⟨_,rfl,eH _ _ _ _ C (kr.tr y)⟩);clear hcl C I R d hm hO;go_upto_region 5 with (fail);generalize wr.alloc _=w1 at *;clear dd d0;have q7:=t.cell;go_wp2_with fail
   refine O.aa.mono ?_;rintro e Z⟨rfl,B⟩;have qC:=J.tr B;have cA:=U.st B;have T:=Q.k B;have q72:=(t.av B).cell;clear O q7 U Q t y;cases hq:q x
   ·exact ag5
   have mE:Hid ((l.take (j+1)).filter q=(l.take j).filter q++[x]):=ae Wd;have bR:=cA.blk;have L:=ew.new (S:=iu) (e:=246) (v:=.agg (mz x (.slice D x.f.length E))) T 0 (eV _);have bE:=cA.st ((K.rf Z).al (.cells (mz x (.slice D x.f.length E)) 246));have N:=qC.tr ((K.rf Z).al (.cells (mz x (.slice D x.f.length E)) 246));have C:=ll q (l.take j);have wy:(l.take j).length<=1000000:=aY;clear cA T;go_wp2_with (at_builtin;refine jt rfl _ _ 132 rfl _ 3 40 Sn rfl rfl bE _ rfl x ?p1 ?p2 ?p3 ?_)
   case p1=>exact L.less λk hk=>ag6
   case p2=>omega
   case p3=>exact N.size
   intro v9 w9 bq bB _ aZ;rw[<- mE.aa]at bq;have ig:=N.trans aZ;clear L bE q72;exact P7
  ·exact K5
theorem ab5 M l v q(f:Nat) cs w(h:iX M cG l v w)(hlen:l.length<=1000000)(hf:∀args W,(callFunc f args).run prog W=.ok (.enter f args) W)
 (Q:∀W,K w W->∀x∈l,∀u,iU x u W->Calls prog f (#[u]++cs) W λe W'=>e=.returned (.bool (q x))/\K W W') :
 Calls prog 170 #[v,.func (.func f) #[] cs] w λe w'=>∃v',e=.returned v'/\aA M w.heap.size 51 cG (l.filter q) v' w'/\K w w':=by
 have H:=ae h
 have HC:=ae Q
 have O:=K.rf w
 have hO:=aA.nil M w.heap.size 51 cG w
 obtain⟨A,c,rfl⟩:=h.slice
 clear h Q
 go_enter func170,ntmps170
 go_wp2_with fail
 go_loopw [5,7,10] (fun o _ i W=>∃j:Nat,j<=l.length/\i=.int .i64 j/\aA M w.heap.size 51 cG ((l.take j).filter q) o W/\K w W) (fun _ _ i _=>l.length-(intOf i).toNat)
 case atStart=>exact⟨0,af,rfl,Bv,O⟩
 case round =>
  clear hO O;obtain⟨j,hj,rfl,hO,kr⟩:=hrel;by_cases E:j<l.length
  ·have aP:(j:Int)<l.length:=af;obtain⟨b,off,c',cs1,y,sQ,Z,F,d⟩:=H.aa.at j E ay;injection y with y _ e2;subst y e2;have HT:=ae (Ke q l j E);have hm:=bS E;generalize l[j]=x at *;obtain⟨R,rfl,C⟩:=F.now;have L:Fx (λk=>M k∨w.heap.size<=k) (λW=>cG.rel x [R] W) wr:=F.to (X:=λ_=>False) (ag.aT kr _) (λ_ h=>h.elim) λk hk V=>V.resolve_right af
   have d0:wr.cell? ⟨b,off+j,none⟩=some R:=by simpa [cG]using d wr (ag.aT kr _) 0 (by decide)
   obtain⟨D,B,rfl⟩:=xR C;have J:=ae (HC.aa _ kr x hm _ (pE _ _ _ _ C kr));clear Z C F d hm;go_wp2_with fail
   refine J.aa.mono ?_;rintro e T⟨rfl,t⟩;have qC:=kr.tr t;have cA:=hO.st t;have N:=L.k t;clear J hO L d0;cases hq:q x
   ·exact ag5
   have mE:Hid ((l.take (j+1)).filter q=(l.take j).filter q++[x]):=ae Wd;have bR:=cA.blk;have G:=ew.new (S:=cG) (e:=51) (v:=.slice D x.length B) N 0 (eV _);have U:=cA.st ((K.rf T).al (.cells #[.slice D x.length B] 51));have I:=qC.tr ((K.rf T).al (.cells #[.slice D x.length B] 51));have cL:=ll q (l.take j);have wy:(l.take j).length<=1000000:=aY;clear cA N;go_wp2_with (at_builtin;refine jt rfl _ _ 37 rfl _ 1 24 Jb rfl rfl U _ rfl x ?p1 ?p2 ?p3 ?_)
   case p1=>exact G.less λk hk=>ag6
   case p2=>omega
   case p3=>exact I.size
   intro v9 w9 bq bB _ Y;rw[<- mE.aa]at bq;have ig:=I.trans Y;clear G U;exact P7
  ·exact K5
