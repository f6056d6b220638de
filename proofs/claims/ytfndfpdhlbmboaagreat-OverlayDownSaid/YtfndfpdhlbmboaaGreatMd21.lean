/-
  The walk of broker's work (layer 20). Conditions: none.
-/
import Derived.Test.YtfndfpdhlbmboaaGreatMd20
import Derived.Test.YtfndfpdhlbmboaaGreatMdz
set_option maxRecDepth 100000
set_option linter.constructorNameAsVariable false
set_option maxHeartbeats 16000000
set_option linter.unusedVariables false
set_option linter.unusedSimpArgs false
namespace Go.Proofs.YtfndfpdhlbmboaaGreat
open Go Go.RowKit _root_.Go.Proofs.Tryz
theorem adZ{s y}:∀ {l:List aK} {p:List aK×List aK},(y∈(l.foldl (pJ s) p).1->y∈p.1∨y∈l)/\(y∈(l.foldl (pJ s) p).2->y∈p.2∨y∈l):=by
 intro l
 induction l with
 | nil=>intro p;exact⟨.inl,.inl⟩
 | cons x l j =>
  grind [pJ]
theorem bE.open'{B}(j:bE B):(∀x∈(oR B.st B.waits (lU B)).1,bJ x=true/\cE x)/\(∀x∈(oR B.st B.waits (lU B)).2,bJ x=true/\cE x)/\(oR B.st B.waits (lU B)).1.length<=1000000/\(oR B.st B.waits (lU B)).2.length<=16:=by
 have h:=adT B.st (lU B) (B.waits,[]);have:=j.y6;have:=adW B;refine⟨λx t=>?_,λx t=>?_,?_,?_⟩
 ·rcases adZ.1 t with h|h
  ·exact j.waits x h
  ·exact j.asks h
 ·rcases adZ.2 t with h|h
  ·simp at h
  ·exact j.asks h
 ·grind [oR]
 ·grind [oR]
theorem Iy{l:List aK}:∀ {B:aZ},bE B->(∀x∈l,cE x)->bE (l.foldl (λb x=>(mU b x).1) B)/\nH B (l.foldl (λb x=>(mU b x).1) B):=by
 induction l with
 | nil=>intro B h _;exact⟨h,nH.rf B⟩
 | cons x l u =>
  intro B h j;have t:=u (adb h (j x aj)) λy A=>j y aA
  exact⟨t.1,(ade B x).tr t.2⟩
theorem asw{kids p x}(h:bE p.1)(j:cE x):bE (lE kids p x).1/\nH p.1 (lE kids p x).1/\(∀y∈(lE kids p x).2,y∈p.2∨y=x)/\(lE kids p x).2.length<=p.2.length+1:=by
 have A:dW (ar x):=⟨j.2.1,j.2.2.2.1,j.2.2.2.2.1⟩
 have u:∀y∈p.2++[x],y∈p.2∨y=x:=λy t=>aA
 unfold lE
 grind [adb,ade,nH.rf,aq0,aq1]
theorem KS{kids}{l:List aK}:∀ {p:aZ×List aK},bE p.1->(∀x∈l,cE x)->bE (l.foldl (lE kids) p).1/\nH p.1 (l.foldl (lE kids) p).1/\(∀y∈(l.foldl (lE kids) p).2,y∈p.2∨y∈l)/\(l.foldl (lE kids) p).2.length<=p.2.length+l.length:=by
 induction l with
 | nil=>intro p h _;exact⟨h,nH.rf _,λy j=>.inl j,aj⟩
 | cons x l B =>
  intro p h u;have A:=asw (kids:=kids) (x:=x) h (u x aj);have t:=B (p:=lE kids p x) A.1 λy j=>u y aA
  refine⟨t.1,A.2.1.tr t.2.1,λy j=>?_,?_⟩;all_goals grind
theorem KT{B}(y:bE B):bE (gB B):=by
 have u:=y.open';unfold gB;split
 ·have A:=Iy y λx t=>(u.2.1 x t).2
  have j:=KS (kids:=dy B) (p:=(yM B,[])) A.1 λx t=>(u.1 x t).2
  exact⟨j.1.tr,j.1.me,j.1.hm,j.1.dk,j.1.tx,j.1.calls,j.1.bO,j.1.told,j.1.fD,λx t=>by
   rcases j.2.2.1 x t with h|h
   ·simp at h
   ·exact u.1 x h,by
   exact bn (show (oq B).2.length<=0+(oR B.st B.waits (lU B)).1.length from j.2.2.2) (by have:=u.2.2.1;omega)⟩
 ·exact y
theorem asx{B B'}(h:nH B B'):dy B'=dy B:=by unfold dy oo iX;rw[h.me,h.par,h.bO]
theorem axA{op kids x}(j:x∈op):bV (Ev op kids) (ar x)=decide (jo kids (ar x)=1):=by
 grind [bV,Ev,ar,jo]
theorem ayE{op kids x}(j:x∈op):dJ (Dc op kids) (ar x)=decide (jo kids (ar x)=2):=by
 grind [dJ,Dc,ar,jo]
def RA(M:Nat->Prop)(op u:List aK)(v:Value)(W:World):Prop:=∃t j,v=.tuple #[t,j]/\Fx M (λW=>aq aV op t W) W/\Fx M (λW=>aq aV u j W) W
theorem ahZ M op j:∀v w w',RA M op j v w->Below w.heap.size w w'->RA M op j v w':=by rintro v w w'⟨A,t,e,y,u⟩ k;exact⟨A,t,e,y.k k,u.k k⟩
def Ht(M:Nat->Prop)(l:List aK)(v:Value)(W:World):Prop:=Fx M (λW=>aq aV l v W) W
theorem LP M l:∀v w w',Ht M l v w->Below w.heap.size w w'->Ht M l v w':=λ_ _ _ h k=>Fx.k h k
theorem acG{M p B w}(h:bB M p B w)(hG:bE B) :
 Calls prog 87 #[.pointer (some ⟨p.g,0,none⟩)] w λe w'=>e=.returned (.tuple #[])/\dK M p (gB B) w w':=by
 have HR:Hid (gB B=if mT B then { (oq B).1 with waits:=(oq B).2 }else B):=ae rfl
 have HWL:Hid (yM B=(oR B.st B.waits (lU B)).2.foldl (λb x=>(mU b x).1) B):=ae rfl
 have HWD:Hid (oq B=(oR B.st B.waits (lU B)).1.foldl (lE (dy B)) (yM B,[])):=ae rfl
 have L:=ae hG.open'
 have H:=ae h
 have HG:=ae hG
 have iO:=hG.Eb
 have C0:=ae (O7 h)
 have C1:=ae λW (k:K w W)=>acF (h.st k) hG
 have C2:=ae λW (k:K w W) va (ha:aq aV (lU B) va W)=>aqY B.st B.waits (lU B) p.vl p.vq p.va p.vw va W ⟨_,_,_,rfl,(h.bK.at k).list,(h.bK.at k).prom,(h.bK.at k).ab⟩ (h.bK.at k).waits ha iO.2.2 (λx t=>vO (hG.asks t).1) ⟨B8,B8⟩ hG.y6 (by have:=adW B;omega)
 have HM:=ae h.low
 have hs1:=av h.bK.now.list
 have fG:=av h.bK.now.prom
 have fc:=av h.bK.now.ab
 have hs4:=av h.bK.now.waits
 have q:=h.q
 obtain⟨op,hop⟩:∃op,op=(oR B.st B.waits (lU B)).1:=⟨_,rfl⟩
 obtain⟨A,tN⟩:∃A,A=(oR B.st B.waits (lU B)).2:=⟨_,rfl⟩
 simp only[<- hop,<- tN]at C2 L HWL HWD
 clear hop tN iO h hG
 generalize MV:gB B=WB at *
 clear MV
 obtain⟨g,gl,gd,gr,gt,vd,vr,vp,vh,vl,vq,va,vt,kM,vw,kr⟩:=p
 simp only at q C1 C2 hs1 fG fc hs4
 obtain⟨Al,cl,rfl⟩:=hs1
 obtain⟨Aq,cq,rfl⟩:=fG
 obtain⟨Aa,ca,rfl⟩:=fc
 obtain⟨Aw,cw,rfl⟩:=hs4
 go_enter func87,ntmps87
 go_wp2
 go_step3
 go_wp2_with fail
 apply aM C0.aa
 intro w1 G
 clear C0
 cases ajW:mT B
 ·have HF:Hid (WB=B):=ae ah0;have HN:=ae (H.aa.n G);clear HR;go_wp2;rw[iq];refine bodyPost_ret (results_none rfl _ _ _) rfl ?_;exact Xh
 have JS:Hid (WB={ (oq B).1 with waits:=(oq B).2 }):=ae ah0
 have q1:=λW (k:K w1 W)=>q W (G.tr k)
 clear HR q ajW
 go_upto_region 2 with (fail)
 have qs:=q1
 refine OV 16 [([],[]),([0],[(23,0)]),([1],[(24,1)]),([2],[(25,2)]),([],[]),([4],[(27,4)]),([5],[(28,5)]),([6],[(29,6)]),([],[]),([8],[(31,8)]),([3,7,9],[(26,3),(30,7),(32,9)]),([10],[(33,10)]),([11],[(22,11)]),([11],[(22,11)]),([12],[(34,12)]),([13],[(35,13)])] 94 ?_
 iterate 9 refine au.i ?_
 refine au.op (Ht M (lU B)) (LP _ _) (λV W kW hp=>?_) ?_
 ·(try simp only[cF,aO,aR,bW,bY,aJ]at hp)
  simp[bR,aF,List.lookup,hp,cW,execOp,aG,q1,go_sem];apply bS (C1.aa W (G.tr kW));rintro v4 w4⟨R,k4⟩;exact⟨_,rfl,R,k4⟩
 refine au.op (RA M op A) (ahZ _ _ _) (λV W kW hp=>?_) ?_
 ·simp only[cF,aO,aR,bW,bY,aJ]at hp;obtain⟨e3,e7,h9,-⟩:=hp;simp[bR,aF,List.lookup,e3,e7,cW,execOp,aG,go_sem];refine (C2.aa W (G.tr kW) (V 9) (Fx.now h9)).mono ?_;rintro e w4⟨v1,v2,rfl,hT,k4⟩;refine⟨_,rfl,⟨v1,v2,rfl,?_,?_⟩,k4⟩
  ·exact (hT.a.less (Y':=M) λk hk=>.inl (bz (HM.aa k hk) (G.tr kW).size)).fx λk hk=>bz (HM.aa k hk) (G.tr kW).size
  ·exact (hT.b.less (Y':=M) λk hk=>.inl (bz (HM.aa k hk) (G.tr kW).size)).fx λk hk=>bz (HM.aa k hk) (G.tr kW).size
 refine au.op (RA M op A) (ahZ _ _ _) (λV W kW hp=>?_) ?_
 ·simp only[cF,aO,aR,bW,bY,aJ]at hp;obtain⟨⟨v1,v2,e,h1,h2⟩,-⟩:=hp;simp[bR,aF,List.lookup,e,cW,execOp,aG,cT,go_sem];exact⟨v1,v2,rfl,h1,h2⟩
 refine au.op (Ht M op) (LP _ _) (λV W kW hp=>?_) ?_
 ·simp only[cF,aO,aR,bW,bY,aJ]at hp;obtain⟨⟨v1,v2,e,h1,h2⟩,-⟩:=hp;simp[bR,aF,List.lookup,e,cW,execOp,aG,cT,go_sem];exact h1
 refine au.op (Ht M A) (LP _ _) (λV W kW hp=>?_) ?_
 ·simp only[cF,aO,aR,bW,bY,aJ]at hp;obtain⟨⟨v1,v2,e,h1,h2⟩,-⟩:=hp;simp[bR,aF,List.lookup,e,cW,execOp,aG,cT,go_sem];exact h2
 refine au.op (Ht M op) (LP _ _) (λV W kW hp=>?_) ?_
 ·exact ah1
 refine au.op (Ht M A) (LP _ _) (λV W kW hp=>?_) ?_
 ·exact ah1
 clear qs
 intro V W kW hA
 simp only[aO,aR,cC,aJ,Nat.reduceAdd]at hA
 refine aH.h ?_
 obtain⟨-,-,-,-,-,-,-,-,-,-,-,-,-,-,h14,Hu,-⟩:=hA
 have kA:=G.tr kW
 have hb0:=H.aa.st kA
 have hL4:=Fx.fix h14 ax Q4
 have hL5:=Fx.fix Hu ax Q4
 generalize V 14=v14 at *
 generalize V 15=v15 at *
 obtain⟨A4,c4,rfl⟩:=hL4.slice
 obtain⟨A5,c5,rfl⟩:=hL5.slice
 have SY:=ae hL4
 have tU:=ae hL5
 have xZ:=ae hb0
 have xO:=hb0.n (K.rf W)
 have S7:=ae kA
 have hlb:=L.aa.2.2.2
 have dw:=L.aa.2.2.1
 clear h14 Hu hL4 hL5 C1 C2 q1 kW G hb0 kA
 go_wp2_with fail
 go_loopw [7,38] (fun _ i wr=>∃j:Nat,j<=A.length/\i=.int .i64 j/\dK M ⟨g,gl,gd,gr,gt,vd,vr,vp,vh,.slice Al B.st.list.length cl,.slice Aq B.st.prom.length cq,.slice Aa B.st.ab.length ca,vt,kM,.slice Aw B.waits.length cw,kr⟩ ((A.take j).foldl (fun b x=>(mU b x).1) B) W wr) (fun _ i _=>A.length-(intOf i).toNat)
 case atStart=>exact⟨0,af,rfl,by simpa using xO⟩
 case round =>
  clear xO;obtain⟨j,hj,rfl,p',D,u,E,I⟩:=hrel;by_cases N:j<A.length
  ·have aP:(j:Int)<A.length:=af;obtain⟨b1,o1,c1,cs1,e9,dq,hcl,R,hcell⟩:=tU.aa.at j N ax;injection e9 with e9 _ fO;subst e9 fO;have HF:=ae (fold_succ (λb x=>(mU b x).1) A B j N);have hm:=L.aa.2.1 _ (bZ N);have O:=Iy HG.aa (l:=A.take j) λx t=>(L.aa.2.1 x (om t)).2
   generalize A[j]=x at *;generalize (A.take j).foldl (λb x=>(mU b x).1) B=Bj at *;have Z:=u.more xZ.aa.sub;have pG:=hcell wr Z;obtain⟨vf,T,rfl,hf,he⟩:=R wr Z;have q9:∀i,i<8->wr.cell? ⟨b1,o1+j*8+i,none⟩=(aE x vf T)[i]?:=λi hi=>(pG i hi).trans Array.getElem?_toList
   have q0:wr.cell? ⟨b1,o1+j*8,none⟩=some (.int .i64 x.kind):=q9 0 ax;have HE:Hid (∀W,K wr W->dm x (.agg (aE x vf T)) W):=ae λW k=>⟨_,_,rfl,eO _ _ _ _ hf k,bo he k⟩
   have t:=ai.new wr 126 (aE x vf T);have k3:=t.aU;obtain⟨Af,cf,rfl⟩:=cA hf;obtain⟨Ae,ce,rfl⟩:=av he;clear hcell pG R hcl dq hf he;go_upto_region 6 with (fail);generalize wr.alloc _=w3 at *;clear q9 q0;have q8:=t.cell;have Y:=ae (acy (D.st k3) O.1 x _ (HE.aa w3 k3) hm.2 (vO hm.1));simp only[Bv E]at Y;have u3:=u.tr (ag.aT k3 _);have BG:=ae I;have x7:=ae E;clear D O E I;go_wp2_with fail
   apply aM Y.aa;intro w4 U;have zM:=dK.tr u3 x7.aa BG.aa (λk hk=>.inl hk) U;rw[<- HF.aa]at zM;clear Y q8 t U;go_wp2;go_roundw
   case rel=>exact⟨j+1,af,bI,zM⟩
   case measure=>simp[intOf];omega
  ·have aP:¬(j:Int)<A.length:=af;obtain rfl:j=A.length:=af;rw[nC,<- HWL.aa]at D;have hg1:=Iy HG.aa (l:=A) λx t=>(L.aa.2.1 x t).2
   rw[<- HWL.aa]at hg1;obtain⟨hg1,hs1⟩:=hg1;have aAq:=ae (asx hs1);generalize yM B=B1 at *;have Y:=ae (Uy D hg1);rw[aAq.aa]at Y;simp only[Bv E]at Y;have pY:=adX HG.aa;have NK:∀m∈dy B,m.cU.length<=1000000:=λm hm=>by have:=(HG.aa.last hm).2.1;omega
   have aAr:=ae (λW' (k:K wr W')=>bo ((SY.aa.fx ax) wr (u.more xZ.aa.sub)) k);have Nd:=ae hg1;have Hg:=ae D;have BG:=ae I;have x7:=ae E;have sc:=λx t=>vO (L.aa.1 x t).1
   have C4:=ae λW' (k:K wr W') vk (hk:aq yi (dy B) vk W')=>ap6 op (dy B) _ vk W' (aAr.aa W' k) hk sc dw af NK
   clear D hg1 hs1 I E NK sc;go_wp2_with fail
   apply bS Y.aa;rintro vk w6⟨hFk,k6⟩;have Hv:=hFk.now;have C5:=ae (C4.aa w6 k6 vk Hv);obtain⟨Ak,ck,rfl⟩:=av Hv;clear Y C4 hFk Hv;go_wp2_with fail
   refine C5.aa.mono ?_;rintro e C⟨vy,vn,vz,rfl,Kf,Hv,k7⟩;have E0:=k6.tr k7;have hB7:=Hg.aa.st E0;have hBl:=Hg.aa.low;have u7:=u.tr (ag.aT E0 _);have tM:=k6.size;have HL7:Hid (jl (λk=>M k∨bw p' k) aV op (.slice A4 op.length c4) C):=ae (SY.aa.to u7 xZ.aa.sub (λk hk t=>by
    rcases t with h|h
    ·exact h
    ·exact xZ.aa.sub k ((BG.aa k h).resolve_right af)) ax)
   have HY:=ae Kf;have HN:=ae Hv;have HBS:=ae (λk (hk:bw p' k)=>bz (hBl k (.inr hk)) tM);obtain⟨Ay,cy,hy⟩:=av Kf.now;obtain⟨An,cn,hn⟩:=av Hv.now;subst hy hn;have ZO:(Ev op (dy B)).length<=1000000:=bn (mw _ _) dw;have hnl:(Dc op (dy B)).length<=1000000:=by unfold Dc;rw[List.length_map];exact bn (mw _ _) dw
   have HB7:=ae hB7;have J8:=ae u7;have sf:bB (λk=>((M k∨bw p' k)∨(Value.slice none 0 0).ownBlock=some k)∨bw p' k) p' B1 C:=hB7.less (λk hk=>.inr hk) λk hk=>by
    rcases hk with (h|h)|h
    ·exact h
    ·simp[Value.ownBlock]at h
    ·exact .inr h
   have iA:=aB.nil (λk=>(M k∨bw p' k)∨C.heap.size<=k) C.heap.size 126 aV C;clear C5 Kf Hv k7 hB7 hBl u u7;go_wp2_with fail
   go_step3;go_wp2_with fail
   go_loopw [11,13,14,56] (fun o _ _ i wr=>∃(j:Nat) (p'':nU),j<=op.length/\i=.int .i64 j/\bB (fun k=>((M k∨bw p' k)∨o.ownBlock=some k)∨bw p'' k) p'' ((op.take j).foldl (lE (dy B)) (B1,[])).1 wr/\ag (bw p') C wr/\p''.key=(g,gd)/\(∀k,bw p'' k->bw p' k∨C.heap.size<=k)/\(∀k,o.ownBlock=some k->¬bw p'' k)/\aB (fun k=>(M k∨bw p' k)∨C.heap.size<=k) C.heap.size 126 aV ((op.take j).foldl (lE (dy B)) (B1,[])).2 o wr) (fun _ _ _ i _=>op.length-(intOf i).toNat)
   case atStart=>exact⟨0,p',af,rfl,sf,ag.rf _ _,x7.aa,λk hk=>.inl hk,λk hk=>ahX,iA⟩
   case round =>
    clear sf iA;obtain⟨j,p2,hj,rfl,D,u,E,I,Kg,J⟩:=hrel;by_cases N:j<op.length
    ·have aP:(j:Int)<op.length:=af;obtain⟨b1,o1,c1,cs1,e9,dq,hcl,R,hcell⟩:=HL7.aa.at j N ax;injection e9 with e9 _ fO;subst e9 fO;have GQ:=ae (fold_succ (lE (dy B)) op (B1,[]) j N);have hm:=L.aa.1 _ (bZ N);have hyh:=axA (kids:=dy B) (bZ N);have NP:=ayE (kids:=dy B) (bZ N);have O:=KS (kids:=dy B) (p:=(B1,[])) (l:=op.take j) Nd.aa λx t=>(L.aa.1 x (om t)).2
     have SZ:=O.2.2.2;replace O:=O.1;have aE6:(op.take j).length<=1000000:=ba;generalize op[j]=x at *;generalize (op.take j).foldl (lE (dy B)) (B1,[])=Q at *;obtain⟨P',ic⟩:∃P',Hid (P'=(op.take (j+1)).foldl (lE (dy B)) (B1,[])):=⟨_,ae rfl⟩;replace GQ:Hid (P'=lE (dy B) Q x):=ae (ic.aa.trans GQ.aa);obtain⟨Bj,lj⟩:=Q;simp only at D J O SZ;have Z:ag (λk=>M k∨bw p' k) C wr:=u.more λk hk=>.inr hk
     have pG:=hcell wr Z;obtain⟨vf,T,rfl,hf,he⟩:=R wr Z;have ke:Fx (λk=>(M k∨bw p' k)∨C.heap.size<=k) (λW=>aV.rel x (aE x vf T).toList W) wr:=R.to Z (λ_ h=>h) λk hk t=>t.resolve_right af
     have q9:∀i,i<8->wr.cell? ⟨b1,o1+j*8+i,none⟩=(aE x vf T)[i]?:=λi hi=>(pG i hi).trans Array.getElem?_toList
     have q0:wr.cell? ⟨b1,o1+j*8,none⟩=some (.int .i64 x.kind):=q9 0 ax;have HE:Hid (∀W,K wr W->dm x (.agg (aE x vf T)) W):=ae λW k=>⟨_,_,rfl,eO _ _ _ _ hf k,bo he k⟩
     have t:=ai.new wr 126 (aE x vf T);have k3:=t.aU;have bT:=J.blk;obtain⟨Af,cf,rfl⟩:=cA hf;obtain⟨Ae,ce,rfl⟩:=av he;obtain⟨Ao,co,rfl⟩:=J.slice;have S8:=ae ke;have ix:=u.size;have HYr:=ae (λW' (k:K wr W')=>bo (HY.aa wr (u.more HBS.aa)) k);have HNr:=ae (λW' (k:K wr W')=>bo (HN.aa wr (u.more HBS.aa)) k);have HBr:=ae D;have S9:=ae u;have RB:=ae E;have Hw:=ae I;have vH:=ae Kg;have HOr:=ae J;have ZH:=ae bT;clear hcell pG R hcl dq hf he ke Z D u E I Kg J bT;go_upto_region 13 with (fail);generalize wr.alloc _=w8 at *;obtain⟨ga,lQ⟩:∃ga,Hid (ga=wr.heap.size):=⟨_,ae rfl⟩;rw[<- lQ.aa]at t⊢;clear q9 q0;have C6:=ae (O8 (Ev op (dy B)) _ (ig (ar x)) 143 #[.pointer (some ⟨ga,0,none⟩)] w8 (HYr.aa w8 k3) ZO (λ_ _=>cV) (λW k y _ u hu=>aqU y x u _ _ ga W hu (t.ay k)));have BC:Hid ((Ev op (dy B)).any (ig (ar x))=decide (jo (dy B) (ar x)=1)):=ae hyh;rw[BC.aa]at C6;clear hyh BC;go_wp2_with fail
     apply cG C6.aa k3;intro w9 k9 vI;have nT:=t.ay k9;have q8:=nT.cell;have ZU:=HE.aa w9 vI;have tT:=HBr.aa.st vI;have jJ:=kg RB.aa;have YS:=adY (dy B) (ar x);have Ta:Hid (P'=if jo (dy B) (ar x)=1 then (if (mU Bj x).2 then ((mU Bj x).1,lj)else (Bj,lj++[x]))else if jo (dy B) (ar x)=2 then (if (nY Bj (ar x)).2 then ((nY Bj (ar x)).1,lj)else (Bj,lj++[x]))else (Bj,lj++[x])):=ae GQ.aa;clear C6 t GQ;generalize jo (dy B) (ar x)=sx at *;rcases YS with rfl|rfl|rfl
     ·have aAs:decide ((0:Int)=1)=false:=ax;have HQ:Hid (P'=(Bj,lj++[x])):=ae Xi;have F:=ae λW (k:K w9 W)=>Fw (Dc op (dy B)) (ar x) _ W (HNr.aa W (vI.tr k)) hnl
      rw[NP]at F;clear Ta NP;go_wp2_with fail
      apply cG (F.aa w9 (K.rf _)) vI;intro xg Hx RC;have y7:=HBr.aa.st RC;have uR:=S9.aa.tr (ag.aT RC _);have Ez:=RB.aa;have EA:=Hw.aa;have Eo:=vH.aa;have nM:=HOr.aa.st RC;clear F jJ;have Mx:=nT.ay Hx;have NQ:=Mx.cell;have HFa:=ae (S8.aa.k RC);have kA:=K.new xg (.cells (aE x (.slice Af x.f.length cf) (.slice Ae x.es.length ce)) 126);have Fh:=nM.st kA;have RD:=nM.blk;have hr:=eD.new (S:=aV) (e:=126) (v:=.agg (aE x (.slice Af x.f.length cf) (.slice Ae x.es.length ce))) HFa.aa 0 (eV _);have My:=y7.st kA;have YT:=uR.size;have zP:=ae (And.intro y7 (And.intro uR (And.intro Ez (And.intro EA (And.intro Eo nM)))));have Jt:=ae My;have aAt:lj.length<=1000000:=by simp at SZ;omega
      clear y7 uR Ez EA Eo nM My tT q8;go_wp2_with (at_builtin;refine jN rfl _ _ 43 rfl _ 8 96 pw rfl rfl Fh _ rfl x ?p1 ?p2 ?p3 ?_)
      case p1 => exact ah2
      case p2=>omega
      case p3=>exact bn YT kA.size
      intro v11 NR AV uK Gg Ju;have akI:=ae AV;have NS:=kA.size;have hBw:bB (λk=>((M k∨bw p' k)∨v11.ownBlock=some k)∨bw p2 k) p2 Bj NR:=Jt.aa.far (X:=λk=>(Value.slice Ao lj.length co).ownBlock=some k) (ag.eU uK λk e=>e) (λk hk=>.inl (.inr hk)) (λk hk=>zP.aa.2.2.2.2.1 k hk) (λk hk h=>by
       rcases h with (h|h)|h
       ·exact .inl (.inl h)
       ·exact ah3
       ·exact .inr h) (λk hk=>.inr hk) (λk hk=>by
        have hg:=uK.size;rcases hk with (h|h)|h
        ·exact ah4
        ·exact (AV.blk k h).2
        ·exact bz (Jt.aa.low k (.inr h)) uK.size)
      have L8:∀k,v11.ownBlock=some k->¬bw p2 k:=λk hk h=>by exact ah5
      have u11:=(zP.aa.2.1.tr (ag.aT kA _)).gF (ag.eU (X:=λk=>(Value.slice Ao lj.length co).ownBlock=some k) uK λk e=>e) λk hk h=>by have:=(RD k h).1;omega
      have HH:=ae (And.intro hBw (And.intro u11 (And.intro zP.aa.2.2.1 (And.intro zP.aa.2.2.2.1 L8))));clear hBw u11 L8 hr Fh AV uK Gg Ju NQ Mx;go_wp2;go_roundw
      case rel=>exact⟨j+1,p2,af,bI,Xj,HH.aa.2.1,HH.aa.2.2.1,HH.aa.2.2.2.1,HH.aa.2.2.2.2,ah6⟩
      case measure=>simp[intOf];omega
     ·have F:=ae (acy (M:=λk=>((M k∨bw p' k)∨(Value.slice Ao lj.length co).ownBlock=some k)∨bw p2 k) tT O x _ ZU hm.2 (vO hm.1));simp only[jJ]at F;have oJ:Hid ((mU Bj x).2=false->(mU Bj x).1=Bj):=ae aeB;clear NP jJ;generalize mU Bj x=LB at *;obtain⟨L1,L2⟩:=LB;simp only at F oJ Ta;go_wp2_with fail
      apply aM F.aa;intro xg U;obtain⟨p3,pd,u3,iH,NT⟩:=U;have nu:=vI.size;have uR:=(S9.aa.tr (ag.aT vI _)).gF u3 λk hk h=>(Hw.aa k h).resolve_right af
      have EA:∀k,bw p3 k->bw p' k∨C.heap.size<=k:=λk hk=>by exact ah7
      have Eo:∀k,(Value.slice Ao lj.length co).ownBlock=some k->¬bw p3 k:=λk hk h=>by exact ah8
      have nM:=(HOr.aa.st vI).to (Y':=λk=>(M k∨bw p' k)∨C.heap.size<=k) u3 (λk hk=>(Hw.aa k hk).imp .inr id) (λk hk h=>vH.aa k hk h) λk _ hk=>.inl hk
      have y7:bB (λk=>((M k∨bw p' k)∨(Value.slice Ao lj.length co).ownBlock=some k)∨bw p3 k) p3 L1 xg:=pd.less (λk hk=>.inr hk) λk hk=>by exact ah9
      have Ez:=iH.trans RB.aa;clear F;exact aia
     ·have aAs:decide ((2:Int)=1)=false:=ax;have F:=ae λW (k:K w9 W)=>Fw (Dc op (dy B)) (ar x) _ W (HNr.aa W (vI.tr k)) hnl
      rw[NP]at F;clear NP;go_wp2_with fail
      apply aM (F.aa w9 (K.rf _));intro w9' k9';replace vI:=vI.tr k9';replace nT:=nT.ay k9';replace q8:=nT.cell;replace tT:=tT.st k9';have C8:=ae (apl (M:=λk=>((M k∨bw p' k)∨(Value.slice Ao lj.length co).ownBlock=some k)∨bw p2 k) tT O (ar x) ⟨hm.2.2.1,hm.2.2.2.2.1,hm.2.2.2.2.2.1⟩);simp only[jJ]at C8;have oJ:Hid ((nY Bj (ar x)).2=false->(nY Bj (ar x)).1=Bj):=ae λh=>by
       unfold nY at h⊢;split
       ·rename_i hh;rw[if_pos hh]at h;cases h
       ·rfl
      clear jJ F;generalize nY Bj (ar x)=LB at *;obtain⟨L1,L2⟩:=LB;simp only at C8 oJ Ta;go_wp2_with fail
      apply aM C8.aa;intro xg U;obtain⟨p3,pd,u3,iH,NT⟩:=U;have nu:=vI.size;have uR:=(S9.aa.tr (ag.aT vI _)).gF u3 λk hk h=>(Hw.aa k h).resolve_right af
      have EA:∀k,bw p3 k->bw p' k∨C.heap.size<=k:=λk hk=>by exact ah7
      have Eo:∀k,(Value.slice Ao lj.length co).ownBlock=some k->¬bw p3 k:=λk hk h=>by exact ah8
      have nM:=(HOr.aa.st vI).to (Y':=λk=>(M k∨bw p' k)∨C.heap.size<=k) u3 (λk hk=>(Hw.aa k hk).imp .inr id) (λk hk h=>vH.aa k hk h) λk _ hk=>.inl hk
      have y7:bB (λk=>((M k∨bw p' k)∨(Value.slice Ao lj.length co).ownBlock=some k)∨bw p3 k) p3 L1 xg:=pd.less (λk hk=>.inr hk) λk hk=>by exact ah9
      have Ez:=iH.trans RB.aa;clear C8;exact aia
    ·have aP:¬(j:Int)<op.length:=af;obtain rfl:j=op.length:=af;rw[nC,<- HWD.aa]at D J;have uf:=J8.aa.gF u λk hk h=>(BG.aa k h).resolve_right af
     have zE:=J8.aa.size;have hX9:∀k,bw p2 k->bw ⟨g,gl,gd,gr,gt,vd,vr,vp,vh,.slice Al B.st.list.length cl,.slice Aq B.st.prom.length cq,.slice Aa B.st.ab.length ca,vt,kM,.slice Aw B.waits.length cw,kr⟩ k∨W.heap.size<=k:=λk hk=>by
      rcases I k hk with h|h
      ·exact BG.aa k h
      ·exact .inr af
     obtain⟨Ao,co,rfl⟩:=J.slice;have bT:=J.blk;have hMl:=HM.aa;have nt:=S7.aa.size;have akJ:jl (λk=>M k∨bw p2 k) aV (oq B).2 _ wr:=J.Hi (λk hk=>by
      rcases hk with h|h
      ·exact .inl (.inl (.inl h))
      ·rcases I k h with h|h
       ·exact .inl (.inl (.inr h))
       ·exact .inl (.inr h)) (λk hk h=>by
        rcases h with h|h
        ·have:=hMl k h;have:=(bT k hk).1;have:=J8.aa.size;omega
        ·exact Kg k hk h)
     have hb2:bB (λk=>M k∨bw p2 k) p2 (oq B).1 wr:=D.less (λk hk=>.inr hk) λk hk=>by
      rcases hk with h|h
      ·exact .inl (.inl (.inl h))
      ·exact .inr h
     have hfin:=hb2.az5 (akJ.fx ax);have u9:ag (bw p2) wr (wr.setCell ⟨p2.g,13,none⟩ (.slice Ao (oq B).2.length co)):=ag.bM (X:=bw p2) (.inl rfl) 13 _;have HF:Hid (∀W9,W9=wr.setCell ⟨p2.g,13,none⟩ (.slice Ao (oq B).2.length co)->bB (λk=>M k∨bw p2 k) { p2 with vw:=.slice Ao (oq B).2.length co } { (oq B).1 with waits:=(oq B).2 } W9):=ae λW9 e=>e▸hfin
     rw[kg E]at u9;have G3:=ae (uf.gF u9 λk hk h=>(hX9 k h).resolve_right af);have HX9:=ae hX9;have akK:=ae E;have qg:=hb2.blk.cell;have zg:=hb2.blk.frozen;rw[kg E]at qg zg;clear D I Kg J bT hMl nt akJ hb2 hfin u9 uf hX9 E u zE;go_wp2;first|go_end0|(rw[Exit.noGoto_normal];go_end0)|(simp only[Exit.noGoto];go_end0)
     refine⟨rfl,?_⟩;rw[JS.aa];have U:dK M ⟨g,gl,gd,gr,gt,vd,vr,vp,vh,.slice Al B.st.list.length cl,.slice Aq B.st.prom.length cq,.slice Aa B.st.ab.length ca,vt,kM,.slice Aw B.waits.length cw,kr⟩ { (oq B).1 with waits:=(oq B).2 } W (wr.setCell ⟨g,13,none⟩ (.slice Ao (oq B).2.length co)):=⟨{ p2 with vw:=.slice Ao (oq B).2.length co },HF.aa _ (by rw[kg akK.aa]),G3.aa,akK.aa,HX9.aa⟩;exact U.zD S7.aa λk hk=>HM.aa k (xZ.aa.sub k hk)
structure tW(M:Nat->Prop)(p:nU)(w w9:World)(o9:Value)(p2:nU)(B:aZ)(l:List aS)(o:Value)(W:World):Prop where
 br:bB (λk=>(M k∨o.ownBlock=some k)∨bw p2 k) p2 B W
 uw:ag (bw p) w W
 u9:ag (λk=>bw p k∨o9.ownBlock=some k) w9 W
 key:p2.key=p.key
 new:∀k,bw p2 k->bw p k∨w9.heap.size<=k
 no:∀k,o.ownBlock=some k->¬bw p2 k
 Tb:∀k,o.ownBlock=some k->o9.ownBlock=some k∨w9.heap.size<=k
 own:aB (λ_=>True) w.heap.size 26 cd l o W
 hz:w.heap.size<=w9.heap.size
 low:∀k,bw p k->k<w.heap.size
 RE:∀k,M k->k<w.heap.size
section
variable {M:Nat->Prop} {p p2:nU} {w w9 W W':World} {o9 o:Value} {B B':aZ} {l l':List aS}
theorem aB.ajX{Y base e}(h:aB Y base e cd l o W):aB (λ_=>True) base e cd l o W:=by obtain⟨css,u,t,j⟩:=h;exact⟨css,u,t,λ_ _=>j W (ag.rf _ _)⟩
theorem aB.akL{N base e}(h:aB (λ_=>True) base e cd l o W)(u:ag N W W')(j:∀k,o.ownBlock=some k->¬N k):aB (λ_=>True) base e cd l o W':=by obtain⟨css,C,B,t⟩:=h;exact⟨css,i6 C u j,B,λA y=>t A ((u.more λ_ _=>.inl trivial).tr y)⟩
theorem tW.start(h:bB M p B w)(k:K w w9)(y:aB (λ_=>True) w.heap.size 26 cd l o9 w9):tW M p w w9 o9 p B l o9 w9:=by
 have C:=y.blk;have A:=λk hk=>h.low k (h.sub k hk)
 refine⟨h.far (X:=λ_=>False) (ag.aT k _) (λ_ h=>h.elim) (λ_ h=>h.elim) (λj t u=>?_) (λj t=>.inr t) (λj t=>?_),ag.aT k _,ag.rf _ _,rfl,λ_ h=>.inl h,λj t u=>aA,λ_ h=>.inl h,y,k.size,A,h.low⟩
 ·rcases u with (u|u)|u
  ·exact u
  ·grind
  ·exact h.sub j u
 ·rcases t with (t|t)|t
  ·exact bz (h.low j t) k.size
  ·grind
  ·exact bz (A j t) k.size
theorem tW.st(h:tW M p w w9 o9 p2 B l o W)(k:K W W'):tW M p w w9 o9 p2 B l o W' :=
 ⟨h.br.st k,h.uw.tr (ag.aT k _),h.u9.tr (ag.aT k _),h.key,h.new,h.no,h.Tb,h.own.st k,h.hz,h.low,h.RE⟩
theorem tW.note(h:tW M p w w9 o9 p2 B l o W)(A:dK (λk=>(M k∨o.ownBlock=some k)∨bw p2 k) p2 B' W W'):∃p3,tW M p w w9 o9 p3 B' l o W':=by
 obtain⟨p3,C,u,hg,y⟩:=A;have E:=h.u9.size;have F:=h.hz;have D:=h.own.blk;refine⟨p3,C.less (λk hk=>.inr hk) (λk hk=>hk.imp .inl λh=>h),h.uw.gF u λk hk j=>(h.new k j).resolve_right af,h.u9.gF u λk hk j=>(h.new k j).imp (λh=>h) λh=>af,hg.trans h.key,λk hk=>?_,λk hk j=>?_,h.Tb,h.own.akL u λk hk=>h.no k hk,h.hz,h.low,h.RE⟩
 ·rcases y k hk with t|t
  ·exact h.new k t
  ·omega
 ·rcases y k j with t|t
  ·exact h.no k hk t
  ·grind
theorem tW.push(h:tW M p w w9 o9 p2 B l o W){o'}(y:aB (λ_=>True) w.heap.size 26 cd l' o' W')(hg:W.grownBy W' o.ownBlock)(C:o'.ownBlock=o.ownBlock∨o'.ownBlock=some W.heap.size):tW M p w w9 o9 p2 B l' o' W':=by
 have u:=ag.eU hg λk e=>e
 have D:=h.own.blk;have F:=y.blk;have E:=h.u9.size;have A:∀k,o'.ownBlock=some k->o.ownBlock=some k∨W.heap.size<=k:=λk hk=>by
  grind
 refine⟨h.br.far u (λk hk=>.inl (.inr hk)) (λk hk=>h.no k hk) (λk hk j=>?_) (λk hk=>.inr hk) (λk hk=>?_),h.uw.gF u λk hk j=>aA,h.u9.gF u λk hk j=>(h.Tb k j).elim .inr λh=>af,h.key,h.new,λk hk j=>?_,λk hk=>?_,y,h.hz,h.low,h.RE⟩
 ·grind
 ·rcases hk with (hk|hk)|hk
  ·exact bz (h.br.low k (.inl (.inl hk))) u.size
  ·grind
  ·exact bz (h.br.low k (.inr hk)) u.size
 ·rcases A k hk with t|t
  ·exact h.no k t j
  ·have:=h.br.low k (.inr j);omega
 ·rcases A k hk with t|t
  ·exact h.Tb k t
  ·omega
theorem tW.fin(h:tW M p w w9 o9 p2 B l o W):dK M p { B with refused:=l } w (W.setCell ⟨p.g,11,none⟩ o):=by
 have hg:=Bv h.key;have C:=h.own.blk;have y:Fx (λk=>M k∨bw p2 k) (λW=>aq cd l o W) W:=λW' u=>(h.own.akL u λk hk j=>by
  rcases j with j|j
  ·have:=(C k hk).1;have:=h.RE k j;omega
  ·exact h.no k hk j).aq
 have hb:bB (λk=>M k∨bw p2 k) p2 B W:=h.br.less (λk hk=>.inr hk) λk hk=>hk.imp .inl λh=>h
 have hp:=hb.az6 y;rw[<- hg];have A:∀k,bw { p2 with vf:=o } k->bw p2 k:=λk hk=>hk
 refine⟨{ p2 with vf:=o },hp,h.uw.gF (ag.bM (X:=λk=>k=p2.g) rfl 11 o) λk hk e=>.inl (e.trans hg),h.key,λk hk=>?_⟩;rcases h.new k (A k hk)with t|t
 ·exact .inl t
 ·have:=h.hz;exact .inr af
end
def wI(told:List aS)(p:List aS×List aK)(x:aK):List aS×List aK:=if dJ told (ar x)then (p.1++[ar x],p.2)else (p.1,p.2++[x])
theorem ayF B l:l.foldl (wI B.told) ([],[])=(uJ B l,mY B l):=by
 have key:∀(l:List aK) (p:List aS×List aK),l.foldl (wI B.told) p=(p.1++uJ B l,p.2++mY B l):=by
  intro l
  induction l with
  | nil=>intro p;simp[uJ,mY]
  | cons x l j =>
   grind [wI,uJ,mY,dJ,ar]
 simpa using key l ([],[])
theorem axB told:∀(l:List aK) (p:List aS×List aK),(l.foldl (wI told) p).1.length<=p.1.length+l.length/\(l.foldl (wI told) p).2.length<=p.2.length+l.length:=by
 intro l
 induction l with
 | nil=>intro p;simp
 | cons x l j =>
  grind [wI]
theorem aca{s y}:∀ {l:List aK} {p:List aK×List aS},y∈(l.foldl (jS s) p).1->y∈p.1∨y∈l:=by
 intro l
 induction l with
 | nil=>intro p h;exact .inl h
 | cons x l j =>
  grind [jS]
theorem ad0{B r}(h:(dz B r).2=false):(dz B r).1=B:=by
 grind [dz]
theorem aq2{p x}(h:bE p.1)(j:cE x):bE (i7 p x).1:=by
 unfold i7;split
 ·exact Ix h ⟨QD,D4,j,QD,D4,D4⟩
 ·exact h
theorem adf{l:List aK}:∀ {p:aZ×List aS},bE p.1->(∀x∈l,cE x)->bE (l.foldl i7 p).1/\(l.foldl i7 p).2.length<=p.2.length+l.length:=by
 induction l with
 | nil=>intro p h _;exact⟨h,aj⟩
 | cons x l j =>
  grind [aq2,i7,fg]
theorem aoX{M p B w}(h:bB M p B w)(hG:bE B) l va(hl:Fx M (λW=>aq aV l va W) w)(hok:∀x∈l,bJ x=true/\cE x)(hlen:l.length<=16) :
 Calls prog 204 #[.pointer (some ⟨p.g,0,none⟩),va] w λe w'=>e=.returned (.tuple #[])/\dK M p (wh B l) w w':=by
 have HR:Hid (wh B l={ (tC B l).1 with refused:=(tC B l).2 }):=ae rfl
 have HPD:Hid (tC B l=(oP B.st (mY B l)).1.foldl i7 (B,uJ B l++(oP B.st (mY B l)).2)):=ae rfl
 have HME:=ae (ayF B l)
 have wG:=ae λj=>axB B.told (l.take j) ([],[])
 have j0:=ae hok
 have H:=ae h
 have HG:=ae hG
 have HM:=ae h.low
 have Q1:=ae λW (k:K w W) a=>(DG Rl underlying160 (WC W) (h.xb.st k) a).1
 simp only[ac3]at Q1
 have Kb:=Jb hl.now
 have hs1:=av h.bK.now.list
 have fG:=av h.bK.now.prom
 have fc:=av h.bK.now.ab
 have hs4:=av h.bK.now.fD
 have CP:=ae λW (k:K w W) ml vm (hm:aq aV ml vm W) (J:∀x∈ml,eJ x) (h2:ml.length<=500000)=>apo B.st ml p.vl p.vq p.va vm W ⟨_,_,_,rfl,(h.bK.at k).list,(h.bK.at k).prom,(h.bK.at k).ab⟩ hm J ⟨B8,B8,B8⟩ h2
 have q:=h.q
 generalize wh B l=R at *
 obtain⟨g,gl,gd,gr,gt,vd,vr,vp,vh,vl,vq,vab,vt,kM,vw,kr⟩:=p
 simp only at q Q1 hs1 fG fc hs4 CP
 obtain⟨Al,cl,rfl⟩:=hs1
 obtain⟨Aq,cq,rfl⟩:=fG
 obtain⟨Ab,cb,rfl⟩:=fc
 obtain⟨Ar,cr,rfl⟩:=hs4
 obtain⟨A,c,rfl⟩:=Kb.slice
 have HLA:=ae Kb
 obtain⟨NU,YU⟩:∃n:Nat,Hid (n=0):=⟨0,ae rfl⟩
 have MN:lY NU w.heap.size 26 cd ([]:List aS) (.slice none 0 0) 126 aV ([]:List aK) (.slice none 0 0) w:=lY.Yy (aB.nil _ _ _ _ _) (by rw[YU.aa];exact eV _)
 have kk:=K.rf w
 clear h hG hl hok Kb
 go_enter func204,ntmps204
 go_wp2_with fail
 go_loopw [5,6,8,9,10,19] (fun o1 o2 _ _ _ i W=>∃j:Nat,j<=l.length/\i=.int .i64 j/\lY NU w.heap.size 26 cd ((l.take j).foldl (wI B.told) ([],[])).1 o1 126 aV ((l.take j).foldl (wI B.told) ([],[])).2 o2 W/\K w W) (fun _ _ _ _ _ i _=>l.length-(intOf i).toNat)
 case atStart=>exact⟨0,af,rfl,by simpa using MN,kk⟩
 case round =>
  clear MN kk;obtain⟨j,hj,rfl,E,L⟩:=hrel;by_cases hlt:j<l.length
  ·have aP:(j:Int)<l.length:=af;obtain⟨b1,off,c1,cs1,O,dq,eS,Y,hcell⟩:=HLA.aa.at j hlt ax;injection O with O _ fO;subst O fO;have HF:=ae (fold_succ (wI B.told) l ([],[]) j hlt);have hpl:=wG.aa j;generalize l[j]=x at *;generalize (l.take j).foldl (wI B.told) ([],[])=P at *;obtain⟨F,ic⟩:∃F,Hid (F=(l.take (j+1)).foldl (wI B.told) ([],[])):=⟨_,ae rfl⟩;replace HF:Hid (F=wI B.told P x):=ae (ic.aa.trans HF.aa);have Jr:P.1.length<=500000:=LA;have Ms:P.2.length<=500000:=LA;obtain⟨P1,P2⟩:=P;simp only at E Jr Ms;have uM:ag (λk=>w.heap.size<=k) w wr:=ag.aT L _;have pG:=hcell wr uM;have S8:=ae Y;obtain⟨vf,ve,rfl,hf,he⟩:=Y wr uM;have q9:∀i,i<8->wr.cell? ⟨b1,off+j*8+i,none⟩=(aE x vf ve)[i]?:=λi hi=>(pG i hi).trans Array.getElem?_toList
   have q0:wr.cell? ⟨b1,off+j*8,none⟩=some (.int .i64 x.kind):=q9 0 ax;have C:=ai.new wr 126 (aE x vf ve);have k3:=C.aU;obtain⟨Af,cf,rfl⟩:=cA hf;obtain⟨Ae,ce,rfl⟩:=av he;obtain⟨A1,c1',rfl⟩:=E.a.slice;obtain⟨A3,c3,rfl⟩:=E.b.slice;clear hcell pG Y eS dq hf he hpl;go_upto_region 6 with (fail);have Ff:=E.st k3;have cJ:=L.tr k3;generalize wr.alloc _=w3 at *;clear q9 q0 E;have q8:=C.cells;have q1:=λW (k:K w3 W)=>q W (cJ.tr k)
   obtain⟨vz,hvz⟩:∃vz,vz=(dh (pO B.told) (ar x)).getD (.int .i64 0):=⟨_,rfl⟩;have ql:∀W,K w3 W->(Instr.lookup 160 (.map (some gt)) (.agg #[.int .i64 x.br,.int .u64 x.life,.int .u64 x.b6]) true).run prog W=.ok (.tuple #[vz,.bool (dJ B.told (ar x))]) W:=λW k=>by rw[hvz];exact Q1.aa W (cJ.tr k) (ar x)
   clear hvz;have qs:=And.intro q1 (And.intro q8 ql);refine dV 12 ?_;iterate 12 refine au.i ?_
   clear qs;intro V W kW hA;simp only[aO,aR,cC,aJ,Nat.reduceAdd]at hA;refine aH.h ?_;have Z:=Ff.st kW;have gG:=cJ.tr kW;have b5:=C.ay kW;have I:=Z.a.blk;have fq:=Z.b.blk;have gM:=gG.size;clear hA Ff q8 q1 ql C kW cJ k3;generalize W=T at *;have q9:=b5.cell;cases ht:dJ B.told (ar x)
   ·have HP:Hid (F=(P1,P2++[x])):=ae aib;have ke:Fx (λk=>(k<NU∨(Value.slice A1 P1.length c1').ownBlock=some k)∨(Value.slice A3 P2.length c3).ownBlock=some k) (λW=>aV.rel x (Value.agg (aE x (.slice Af x.f.length cf) (.slice Ae x.es.length ce))).cells.toList W) T:=λW' u=>S8.aa W' ((ag.aT gG _).gF u λk hk h=>by
     rcases h with (h|h)|h
     ·have:=YU.aa;omega
     ·exact (I k h).1
     ·exact (fq k h).1)
    have hr:=eD.new (S:=aV) (e:=126) (v:=.agg (aE x (.slice Af x.f.length cf) (.slice Ae x.es.length ce))) ke 0 (eV _);have U:=K.new T (.cells (aE x (.slice Af x.f.length cf) (.slice Ae x.es.length ce)) 126);have lC:=Z.st U;have iz:=gG.tr U;have nu:=iz.size;clear Z ke ht;go_wp2_with (at_builtin;refine jN rfl _ _ 43 rfl _ 8 96 pw rfl rfl lC.b _ rfl x ?p1 ?p2 ?p3 ?_)
    case p1=>exact hr
    case p2=>omega
    case p3=>simpa using nu
    intro v9 w9 bq bC cY aY;have Mu:=(lC.swap.push bq bC rE).swap;exact aic
   ·have HP:Hid (F=(P1++[ar x],P2)):=ae aib;have hr:=eD.new (S:=cd) (e:=26) (x:=ar x) (v:=.agg (dt (ar x))) (w:=T) (N:=λk=>(k<NU∨(Value.slice A3 P2.length c3).ownBlock=some k)∨(Value.slice A1 P1.length c1').ownBlock=some k) (λW u=>rfl) 0 (eV _);have U:=K.new T (.cells (dt (ar x)) 26);have lC:=Z.st U;have iz:=gG.tr U;have nu:=iz.size;clear Z ht;go_wp2_with (at_builtin;refine jN rfl _ _ 44 rfl _ 3 24 wU rfl rfl lC.a _ rfl (ar x) ?p1 ?p2 ?p3 ?_)
    case p1=>exact hr
    case p2=>omega
    case p3=>simpa using nu
    intro v9 w9 bq bC cY aY;have Mu:=lC.push bq bC rE;exact aic
  ·have aP:¬(j:Int)<l.length:=af;obtain rfl:j=l.length:=af;rw[nC,HME.aa]at E;simp only at E;have uO:∀x∈mY B l,bJ x=true/\cE x:=λx C=>j0.aa x (List.mem_filter.1 C).1
   have kK:(mY B l).length<=16:=bn (mw _ _) hlen;have hrn:(uJ B l).length<=16:=by unfold uJ;rw[List.length_map];exact bn (mw _ _) hlen
   have C2:=ae (CP.aa wr L (mY B l) _ E.b.aq (λx C=>vO (uO x C).1) af);have Sk:∀y∈(oP B.st (mY B l)).1,bJ y=true/\cE y:=λy hy=>uO y ((aca hy).resolve_left aj)
   have hpn:=acE B.st (mY B l) ([],[]);have HPM:=ae Sk;obtain⟨A3,c3,e3⟩:=E.b.slice;have Tc:=E.a;have pd:=λk hk=>(E.b.blk k (e3▸hk)).2
   generalize uJ B l=rB at *;generalize mY B l=mB at *;have Kh:(oP B.st mB).1.length<=16:=aid;have NW:(oP B.st mB).2.length<=16:=aid;generalize oP B.st mB=PV at *;obtain⟨D,PV2⟩:=PV;simp only at C2 HPD HPM Kh NW;clear uO Sk hpn HME wG j0 aP E;have q1:=q wr L;subst e3;obtain⟨A1,c1',rfl⟩:=Tc.slice;generalize wr=w5 at *;go_wp2_with fail
   refine C2.aa.mono ?_;rintro e w6⟨v1,v2,rfl,oM,k6⟩;clear C2 q1;have tV:=Tc.st k6;have I:=Tc.blk;have p5:=L.size;have aN:=oM.a.blk;have hb2:=oM.b.blk;have jL:jl (λk=>(k<NU∨(Value.slice A3 mB.length c3).ownBlock=some k)∨(Value.slice A1 rB.length c1').ownBlock=some k) cd PV2 v2 w6:=oM.b.ajX.Hi (λ_ _=>.inl trivial) λk hk C=>by
    have J:=(hb2 k hk).1;rcases C with (C|C)|C
    ·have:=YU.aa;omega
    ·have:=tV.slice;exact absurd J (by have:=pd k C;omega)
    ·have:=(I k C).2;omega
   have Fb:=L.tr k6;obtain⟨Av1,cv1,e1⟩:=oM.a.slice;have akM:=oM.a;clear oM Tc;go_wp2_with (at_builtin;refine Ux rfl _ _ 44 rfl _ 3 24 wU rfl rfl tV _ rfl jL ?p2 ?p3 ?_)
   case p2=>omega
   case p3=>exact Fb.size
   intro v9 w9 bq bC cY aY;have Td:=Fb.trans aY;have t:=tW.start H.aa Td bq.ajX;have u19:=ag.eU bC λk e=>e
   have tM:=k6.size;have si:=akM.to (Y':=λk=>k<w5.heap.size∨w6.heap.size<=k) u19 (λk hk=>.inl (I k hk).2) (λk J h2=>by have:=(aN k J).1;have:=(I k h2).2;omega) (λk J hk=>hk.elim (λh=>.inl (.inl h)) λh=>af);have HV1:=ae (si.Hi (N:=λk=>bw ⟨g,gl,gd,gr,gt,vd,vr,vp,vh,.slice Al B.st.list.length cl,.slice Aq B.st.prom.length cq,.slice Ab B.st.ab.length cb,vt,.slice Ar B.refused.length cr,vw,kr⟩ k∨v9.ownBlock=some k) (λk hk=>.inl (by
    rcases hk with hk|hk
    ·have:=t.low k hk;exact .inl af
    ·rcases cY with e|e
     ·exact .inl ((I k (e▸hk)).2)
     ·rw[e]at hk;injection hk with hk;exact .inr af)) λk J hk=>by
    have:=aN k J;rcases hk with hk|hk
    ·have:=t.low k hk;omega
    ·rcases cY with e|e
     ·have:=(I k (e▸hk)).2;omega
     ·rw[e]at hk;injection hk with hk;omega)
   subst e1;obtain⟨G,JN⟩:∃G,Hid (G=rB++PV2):=⟨_,ae rfl⟩;rw[<- JN.aa]at bq t;have hl9:G.length<=32:=by rw[JN.aa];simp;omega
   have aAu:Hid (tC B l=D.foldl i7 (B,G)):=ae (by rw[HPD.aa,JN.aa]);obtain⟨A9,c9,rfl⟩:=bq.slice;obtain⟨P0,EU⟩:∃P0:nU,Hid (P0=⟨g,gl,gd,gr,gt,vd,vr,vp,vh,.slice Al B.st.list.length cl,.slice Aq B.st.prom.length cq,.slice Ab B.st.ab.length cb,vt,.slice Ar B.refused.length cr,vw,kr⟩):=⟨_,ae rfl⟩;rw[<- EU.aa]at t HV1;have SE:Hid (P0.g=g):=ae (by rw[EU.aa]);clear si akM tV u19 bq bC cY aY I pd aN hb2 jL HPD JN H p5 tM k6 L Fb Q1 CP q HLA;go_wp2_with fail
   go_loopw [5,14,58] (fun o _ i W=>∃(j:Nat) (p2:nU),j<=D.length/\i=.int .i64 j/\tW M P0 w w9 (.slice A9 G.length c9) p2 ((D.take j).foldl i7 (B,G)).1 ((D.take j).foldl i7 (B,G)).2 o W) (fun _ _ i _=>D.length-(intOf i).toNat)
   case atStart=>exact⟨0,P0,af,rfl,by simpa using t⟩
   case round =>
    clear t;obtain⟨j,p2,hj,rfl,t⟩:=hrel;have jJ:=(Bv t.key).trans SE.aa;have HGs:=ae jJ;have HP:=ae t;by_cases hlt:j<D.length
    ·have aP:(j:Int)<D.length:=af;obtain⟨b1,o1,c1,cs1,O,dq,eS,Y,hcell⟩:=HV1.aa.at j hlt ax;injection O with O _ fO;subst O fO;have HF:=ae (fold_succ i7 D (B,G) j hlt);have hm:=HPM.aa _ (bZ hlt);have vG:=adf (p:=(B,G)) HG.aa (l:=D.take j) λx C=>(HPM.aa x (om C)).2
     generalize D[j]=x at *;generalize (D.take j).foldl i7 (B,G)=P at *;obtain⟨F,ic⟩:∃F,Hid (F=(D.take (j+1)).foldl i7 (B,G)):=⟨_,ae rfl⟩;replace HF:Hid (F=i7 P x):=ae (ic.aa.trans HF.aa);obtain⟨X,Q⟩:=P;simp only at t HP vG;have hrl:Q.length<=100:=by have:=vG.2;simp at this;omega
     have pG:=hcell wr t.u9;obtain⟨vf,ve,rfl,hf,he⟩:=Y wr t.u9;have q9:∀i,i<8->wr.cell? ⟨b1,o1+j*8+i,none⟩=(aE x vf ve)[i]?:=λi hi=>(pG i hi).trans Array.getElem?_toList
     have q0:wr.cell? ⟨b1,o1+j*8,none⟩=some (.int .i64 x.kind):=q9 0 ax;have C:=ai.new wr 126 (aE x vf ve);have k3:=C.aU;have tS:∀W,K wr W->p6 (uI x) (.agg (eY (uI x) vf ve)) W:=λW k=>⟨_,_,rfl,eO _ _ _ _ hf k,bo he k⟩
     obtain⟨Af,cf,rfl⟩:=cA hf;obtain⟨Ae,ce,rfl⟩:=av he;have uU:=ae tS;obtain⟨Ao,co,rfl⟩:=t.own.slice;clear hcell pG Y eS dq hf he tS;go_upto_region 16 with (fail);have hP3:=t.st k3;generalize wr.alloc _=w3 at *;have wS:(Value.slice Ao Q.length co).ownBlock≠some wr.heap.size:=λh=>by have:=(t.own.blk _ h).2;omega
     have hxe:¬bw p2 wr.heap.size:=λh=>by have:=t.br.low _ (.inr h);omega
     generalize s6:wr.heap.size=gx at *;clear q9 q0 t s6;have q8:=C.cell;have C3:=ae (KH hP3.br vG.1 (uI x) _ (uU.aa w3 k3) ⟨QD,D4,hm.2,QD,D4,D4⟩ (vO hm.1));simp only[jJ]at C3;have oJ:Hid ((dz X (uI x)).2=false->(dz X (uI x)).1=X):=ae ad0;have Dp:Hid (F=if (dz X (uI x)).2 then ((dz X (uI x)).1,Q)else (X,Q++[ar x])):=ae HF.aa;clear jJ vG HF;generalize dz X (uI x)=NB at *;obtain⟨N1,N2⟩:=NB;simp only at C3 oJ Dp;go_wp2_with fail
     apply aM C3.aa;intro T hN;obtain⟨p3,hP4⟩:=hP3.note hN;obtain⟨_,_,uN,_⟩:=hN;have b5:=C.aW uN hxe;clear C3 q8 C uN hP3 wS hxe;cases N2
     ·have Kg:=oJ.aa rfl;subst Kg;have HQ:Hid (F=(N1,Q++[ar x])):=ae (by rw[Dp.aa];rfl);have NQ:=b5.cell;have hr:=eD.new (S:=cd) (e:=26) (x:=ar x) (v:=.agg (dt (ar x))) (w:=T) (N:=λk=>True∨(Value.slice Ao Q.length co).ownBlock=some k) (λW u=>rfl) 0 (eV _);have U:=K.new T (.cells (dt (ar x)) 26);have Te:=hP4.st U;have cK:=Te.own;have p5:=Te.uw.size;clear hP4 Dp oJ;go_wp2_with (at_builtin;refine jN rfl _ _ 44 rfl _ 3 24 wU rfl rfl cK _ rfl (ar x) ?p1 ?p2 ?p3 ?_)
      case p1=>exact hr.less λk _=>.inl trivial
      case p2=>omega
      case p3=>simpa using p5
      intro v9 xg bq bC cY aY;have Bz:=Te.push (bq.less λ_ _=>trivial) bC rE;clear hr cK Te bq bC cY aY NQ b5;go_wp2;go_roundw
      case rel=>exact⟨j+1,p3,af,bI,by rw[<- ic.aa,HQ.aa];exact Bz⟩
      case measure=>simp[intOf];omega
     ·have HQ:Hid (F=(N1,Q)):=ae (by rw[Dp.aa];rfl);clear Dp oJ b5;go_wp2;go_roundw
      case rel=>exact⟨j+1,p3,af,bI,by rw[<- ic.aa,HQ.aa];exact hP4⟩
      case measure=>simp[intOf];omega
    ·have aP:¬(j:Int)<D.length:=af;obtain rfl:j=D.length:=af;rw[nC,<- aAu.aa]at t;have tT:=t.fin;rw[SE.aa]at tT;obtain⟨Ao,co,e8⟩:=t.own.slice;have qg:=t.br.blk.cell;have zg:=t.br.blk.frozen;rw[jJ]at qg zg;subst e8;have SJ:=ae tT;rw[EU.aa]at SJ;clear t HP tT jJ;go_wp2;go_end0;refine⟨rfl,?_⟩;rw[HR.aa];exact SJ.aa
theorem abS{M p B w}(h:bB M p B w)(hG:bE B) a(fa:dW a) I T(hb:ai w I 90 #[.pointer (some ⟨p.g,0,none⟩)])(hn:ai w T 273 #[.func (.func 200) #[.pointer (some ⟨p.g,0,none⟩)] #[]]) :
 Calls prog 201 #[cN a,.pointer (some ⟨I,0,none⟩),.pointer (some ⟨T,0,none⟩)] w λe w'=>e=.returned (.tuple #[])/\dK M p (jy B a) w w':=by
 have X:Hid (jy B a=if bV B.st.prom a then (dz B (jF 5 a)).1 else B):=ae rfl
 have N:=λk hk=>h.low k (h.sub k hk)
 have A:=ai.new w 26 (dt a)
 have j:=A.aU
 have E:=hb.ay j
 have G:=hn.ay j
 have H:=ae h
 have wT:=ae N
 have y:=ae λW (k:K w W)=>Ky B.st a (.agg (cP B.st p.vl p.vq p.va)) W ⟨_,_,_,rfl,(h.bK.at k).list,(h.bK.at k).prom,(h.bK.at k).ab⟩ B8
 have J:∀W,p6 (jF 5 a) (.agg (eY (jF 5 a) (.slice none 0 0) (.slice none 0 0))) W:=λW=>⟨_,_,rfl,⟨none,0,rfl,Reads.nil _ _ _ _⟩,gI _ _⟩
 have u:=ae λW (k:K w W)=>KH (h.st k) hG (jF 5 a) _ (J W) (Vs qA fa) ⟨by simp[jF,dD],by simp[jF,dD],by simp[jF,dD]⟩
 have O:=av h.bK.now.list
 have L:=av h.bK.now.prom
 have U:=av h.bK.now.ab
 have q:=h.q
 generalize jy B a=R at *
 obtain⟨g,gl,gd,gr,gt,vd,vr,vp,vh,vl,vq,va,vt,vf,vw,kr⟩:=p
 simp only at q y u O L U E G
 obtain⟨Al,cl,rfl⟩:=O
 obtain⟨Ap,cp,rfl⟩:=L
 obtain⟨Aa,ca,rfl⟩:=U
 clear h hG hb hn N J
 go_enter func201,ntmps201
 go_upto_region 1 with (fail)
 generalize w.alloc _=w1 at *
 generalize w.heap.size=ga at A⊢
 have C:=A.cells
 have D:=E.cells
 have F:=λW (k:K w1 W)=>q W (j.tr k)
 clear q
 have qs:=And.intro F (And.intro C D)
 refine dV 6 ?_
 iterate 5 refine au.i ?_
 refine au.is (.bool (bV B.st.prom a)) (λV W kW hp=>?_) ?_
 ·(try simp only[cF,aO,aR,bW,bY,aJ]at hp)
  simp[bR,aF,List.lookup,hp,cW,execOp,aG,aJ,F,C,D,go_sem];apply aM (y.aa W (j.tr kW));intro w4 k4;grind
 clear qs
 intro V W kW hA
 simp only[aO,aR,cC,aJ,Nat.reduceAdd]at hA
 refine aH.h ?_
 have t:=j.tr kW
 have sX:=C W kW
 have Z:=G.cells W kW
 have hBK:=ae (H.aa.st t)
 clear hA F C D A E G
 generalize W=Y at *
 cases hp:bV B.st.prom a
 ·have HF:Hid (R=B):=ae (by rw[X.aa,hp];rfl);have HN:=ae (H.aa.n t);clear hp y u;go_wp2;go_end0;exact Xh
 ·have HF:Hid (R=(dz B (jF 5 a)).1):=ae (by rw[X.aa,hp];rfl);have S:=ae (u.aa Y t);clear hp y u;go_wp2_with fail
  apply aM S.aa;intro w3 Q;have HN:=ae (Q.zD t wT.aa);clear S Q sX Z;go_wp2;go_end0;exact Xh
theorem Vt{α}[DecidableEq α]{k}:∀ {ak:List (α×Value)} {i:Nat},(∀p∈ak,p.1≠k)->gu k ak i=none
 | [],_,_=>rfl
 | p :: r,i,h=>by unfold gu;have t:=h p aj;simp only[t,if_false];exact Vt λq j=>h q (by simp[j])
theorem asy{l a}(h:dJ l a=false):sG (pO l) a (.int .i64 l.length)=pO (l++[a]):=by
 grind [pO,List.fst_mem_of_mem_zipIdx,dJ,sG,Vt]
theorem bB.tell{M p B w w'}(h:bB M p B w){a}(hm:eC mD w' p.gt (pO (B.told++[a])))(hg:w.grownBy w' (some p.gt)):bB M p { B with told:=B.told++[a] } w':=by
 obtain⟨E,A,D,F,C⟩:=h.apart;have u:ag (λk=>k=p.gt) w w':=ag.eU hg λk e=>aA
 have t:=u.more λk hk=>h.sub k (hk ▸ .inr (.inr (.inl rfl)))
 refine⟨h.blk.aW u A,h.lg.aW u λk hk e=>C (e▸hk),h.rep.aW u h.ne,hm,λW y=>?_,h.sub,λk hk=>bz (h.low k hk) u.size,h.ne⟩;have j:=h.bK W (t.tr y);exact⟨j.par,j.ah,j.list,j.prom,j.ab,j.aC,j.fD,j.waits,j.bO⟩
theorem awb{M p B w}(h:bB M p B w){a}(u:dJ B.told a=false) :
 ∃w',(Instr.mapUpdate 160 (.map (some p.gt)) (.agg (dt a)) (.int .i64 B.told.length)).run prog w=.ok () w'/\bB M p { B with told:=B.told++[a] } w'/\ag (λk=>k=p.gt) w w':=by
 obtain⟨w',y,t,j⟩:=FK Rl underlying160 h.xb a (.int .i64 B.told.length)
 rw[asy u]at t
 exact⟨w',y,h.tell t j,ag.eU j λk e=>aA⟩
theorem eC.len{α enc P w b}{ak:List (α×Value)}(h:eC enc w b ak){t ty k e}(u:P.underlying t=some (.map k e)):(Builtin.len_ #[t] ty #[.map (some b)]).run P w=.ok (.int .i64 ak.length) w:=by
 obtain⟨es,c,A,y,-⟩:=h;have j:P.underlying t=some (.map (P.mapKeyOf t) (P.mapElemOf t)):=by unfold Program.mapKeyOf Program.mapElemOf;rw[u]
 have:=congrArg List.length y;simp only[List.length_map,Array.length_toList]at this;rw[run_len_map w t ty b es c j A,this];rfl
theorem bB.axC{M p B w}(h:bB M p B w):∀W,K w W->∀ty,(Builtin.len_ #[160] ty #[.map (some p.gt)]).run prog W=.ok (.int .i64 B.told.length) W:=λW k ty=>by have:=(h.xb.st k).len (ty:=ty) underlying160;rw[this];simp[pO]
