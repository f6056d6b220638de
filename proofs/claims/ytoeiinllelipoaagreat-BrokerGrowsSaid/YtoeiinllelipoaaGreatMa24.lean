/-
  The walk of broker's work (layer 20). Conditions: none.
-/
import Derived.Test.YtoeiinllelipoaaGreatMa23
import Derived.Test.YtoeiinllelipoaaGreatMz
set_option maxRecDepth 100000
set_option maxHeartbeats 16000000
set_option linter.unusedVariables false
set_option linter.unusedSimpArgs false
namespace Go.Proofs.YtoeiinllelipoaaGreat
open Go Go.RowKit Tryz
theorem acV{s:bA}{y:aq}:∀ {l:List aq} {p:List aq×List aq},(y∈(l.foldl (kM s) p).1->y∈p.1∨y∈l)/\(y∈(l.foldl (kM s) p).2->y∈p.2∨y∈l):=by
 intro l
 induction l with
 | nil=>intro p;exact⟨.inl,.inl⟩
 | cons x l i =>
  intro p;have j:(y∈(kM s p x).1->y∈p.1∨y=x)/\(y∈(kM s p x).2->y∈p.2∨y=x):=by
   unfold kM;split
   ·exact⟨.inl,.inl⟩
   ·split
    ·exact⟨.inl,λh=>rT⟩
    ·split
     ·exact⟨λh=>rT,.inl⟩
     ·exact⟨.inl,.inl⟩
  refine⟨λh=>?_,λh=>?_⟩
  ·rcases (i (p:=kM s p x)).1 h with h|h
   ·rcases j.1 h with h|h
    ·exact .inl h
    ·exact .inr tQ
   ·exact .inr tQ
  ·rcases (i (p:=kM s p x)).2 h with h|h
   ·rcases j.2 h with h|h
    ·exact .inl h
    ·exact .inr tQ
   ·exact .inr tQ
theorem bH.open'{B:aB}(i:bH B):(∀x∈(oG B.st B.waits (lY B)).1,bP x=true/\cK x)/\(∀x∈(oG B.st B.waits (lY B)).2,bP x=true/\cK x)/\(oG B.st B.waits (lY B)).1.length<=1000000/\(oG B.st B.waits (lY B)).2.length<=16:=by
 have h:=acP B.st (lY B) (B.waits,[]);have:=i.BK;have:=acS B;refine⟨λx j=>?_,λx j=>?_,?_,?_⟩
 ·rcases acV.1 j with h|h
  ·exact i.waits x h
  ·exact i.asks h
 ·rcases acV.2 j with h|h
  ·simp at h
  ·exact i.asks h
 ·simp only[oG];simp at h;omega
 ·simp only[oG];simp at h;omega
theorem H7{l:List aq}:∀ {B:aB},bH B->(∀x∈l,cK x)->bH (l.foldl (λb x=>(mG b x).1) B)/\mU B (l.foldl (λb x=>(mG b x).1) B):=by
 induction l with
 | nil=>intro B h _;exact⟨h,mU.rf B⟩
 | cons x l s =>
  intro B h i;have j:=s (ab7 h (i x aj)) λy hy=>i y Bd
  exact⟨j.1,(ab8 B x).tr j.2⟩
theorem arN{kids:List bK}{p:aB×List aq}{x:aq}(h:bH p.1)(i:cK x):bH (kQ kids p x).1/\mU p.1 (kQ kids p x).1/\(∀y∈(kQ kids p x).2,y∈p.2∨y=x)/\(kQ kids p x).2.length<=p.2.length+1:=by
 have j:df (ax x):=⟨i.2.1,i.2.2.2.1,i.2.2.2.2.1⟩;have he:∀y∈p.2++[x],y∈p.2∨y=x:=λy hy=>Kr
 unfold kQ;split
 ·split
  ·exact⟨ab7 h i,ab8 _ _,λy hy=>.inl hy,aj⟩
  ·exact WC
 ·split
  ·split
   ·exact⟨aqp h j,aqq _ _,λy hy=>.inl hy,aj⟩
   ·exact WC
  ·exact WC
theorem J3{kids:List bK}{l:List aq}:∀ {p:aB×List aq},bH p.1->(∀x∈l,cK x)->bH (l.foldl (kQ kids) p).1/\mU p.1 (l.foldl (kQ kids) p).1/\(∀y∈(l.foldl (kQ kids) p).2,y∈p.2∨y∈l)/\(l.foldl (kQ kids) p).2.length<=p.2.length+l.length:=by
 induction l with
 | nil=>intro p h _;exact⟨h,mU.rf _,λy hy=>.inl hy,aj⟩
 | cons x l A =>
  intro p h u;have j:=arN (kids:=kids) (x:=x) h (u x aj);have s:=A (p:=kQ kids p x) j.1 λy hy=>u y Bd
  refine⟨s.1,j.2.1.tr s.2.1,λy hy=>?_,?_⟩
  ·rcases s.2.2.1 y hy with t|t
   ·rcases j.2.2.1 y t with i|i
    ·exact .inl i
    ·exact .inr (by simp[i])
   ·exact .inr (by simp[t])
  ·exact IB
theorem Oe{B:aB}(t:bH B):bH (ic B):=by
 have s:=t.open';unfold ic;split
 ·have u:=H7 t λx j=>(s.2.1 x j).2
  have i:=J3 (kids:=cZ B) (p:=(xI B,[])) u.1 λx j=>(s.1 x j).2
  exact⟨i.1.tr,i.1.me,i.1.hm,i.1.dk,i.1.tx,i.1.calls,i.1.bR,i.1.told,i.1.eX,λx j=>by
   rcases i.2.2.1 x j with h|h
   ·simp at h
   ·exact s.1 x h,by
   exact bq (show (oK B).2.length<=0+(oG B.st B.waits (lY B)).1.length from i.2.2.2) (by have:=s.2.2.1;omega)⟩
 ·exact t
theorem arO{B B':aB}(h:mU B B'):cZ B'=cZ B:=by unfold cZ mF iI;rw[h.me,h.par,h.bR]
theorem awm{op:List aq}{kids:List bK}{x:aq}(i:x∈op):cA (DZ op kids) (ax x)=decide (jv kids (ax x)=1):=by
 unfold cA DZ;rw[Bool.eq_iff_iff,List.any_eq_true];simp only[List.mem_filter,decide_eq_true_eq];constructor
 ·rintro ⟨y,⟨-,j⟩,s⟩;rw[<- s];exact j
 ·intro h;exact⟨x,⟨i,h⟩,rfl⟩
theorem axp{op:List aq}{kids:List bK}{x:aq}(i:x∈op):dx (Cj op kids) (ax x)=decide (jv kids (ax x)=2):=by
 unfold dx Cj;rw[Bool.eq_iff_iff,List.any_eq_true];simp only[List.mem_map,List.mem_filter,decide_eq_true_eq];constructor
 ·rintro ⟨a,⟨y,⟨-,j⟩,rfl⟩,s⟩;rw[<- s];exact j
 ·intro h;exact⟨_,⟨x,⟨i,h⟩,rfl⟩,rfl⟩
def QF(M:Nat->Prop)(op j:List aq)(v:Value)(W:World):Prop:=∃i h,v=.tuple #[i,h]/\Fx M (λW=>ar aQ op i W) W/\Fx M (λW=>ar aQ j h W) W
theorem aic(M:Nat->Prop)(op h:List aq):∀v w w',QF M op h v w->Below w.heap.size w w'->QF M op h v w':=by rintro v w w'⟨t,s,e,i,j⟩ k;exact⟨t,s,e,i.k k,j.k k⟩
def G2(M:Nat->Prop)(l:List aq)(v:Value)(W:World):Prop:=Fx M (λW=>ar aQ l v W) W
theorem Ln(M:Nat->Prop)(l:List aq):∀v w w',G2 M l v w->Below w.heap.size w w'->G2 M l v w':=λ_ _ _ h k=>Fx.k h k
theorem Tz{M:Nat->Prop}{p:cV}{B:aB}{w:World}(h:bC M p B w)(hG:bH B) :
 Calls prog 57 #[.pointer (some ⟨p.g,0,none⟩)] w λe w'=>e=.returned (.tuple #[])/\cW M p (ic B) w w':=by
 have HR:Hid (ic B=if jO B then { (oK B).1 with waits:=(oK B).2 }else B):=ae rfl
 have Z1:Hid (xI B=(oG B.st B.waits (lY B)).2.foldl (λb x=>(mG b x).1) B):=ae rfl
 have HWD:Hid (oK B=(oG B.st B.waits (lY B)).1.foldl (kQ (cZ B)) (xI B,[])):=ae rfl
 have N:=ae hG.open'
 have H:=ae h
 have HG:=ae hG
 have gY:=hG.IH
 have C0:=ae (JV h)
 have C1:=ae λW (k:K w W)=>abA (h.st k) hG
 have C2:=ae λW (k:K w W) va (ha:ar aQ (lY B) va W)=>aqn B.st B.waits (lY B) p.vl p.vq p.va p.vw va W ⟨_,_,_,rfl,(h.bL.at k).list,(h.bL.at k).prom,(h.bL.at k).ab⟩ (h.bL.at k).waits ha gY.2.2 (λx s=>tK (hG.asks s).1) ⟨Bf,Bf⟩ hG.BK (by have:=acS B;omega)
 have HM:=ae h.low
 have hs1:=az h.bL.now.list
 have dX:=az h.bL.now.prom
 have dF:=az h.bL.now.ab
 have hs4:=az h.bL.now.waits
 have q:=h.q
 obtain⟨op,hop⟩:∃op,op=(oG B.st B.waits (lY B)).1:=⟨_,rfl⟩
 obtain⟨t,x8⟩:∃t,t=(oG B.st B.waits (lY B)).2:=⟨_,rfl⟩
 simp only[<- hop,<- x8]at C2 N Z1 HWD
 clear hop x8 gY h hG
 generalize Mo:ic B=WB at *
 clear Mo
 obtain⟨g,gl,gd,gr,gt,vd,vr,vp,vh,vl,vq,va,vt,iO,vw,kr⟩:=p
 simp only at q C1 C2 hs1 dX dF hs4
 obtain⟨Al,cl,rfl⟩:=hs1
 obtain⟨Aq,cq,rfl⟩:=dX
 obtain⟨Aa,ca,rfl⟩:=dF
 obtain⟨Aw,cw,rfl⟩:=hs4
 go_enter func57,ntmps57
 go_wp2
 go_step3
 go_wp2_with fail
 refine C0.aa.mono ?_
 rintro e w1⟨rfl,F⟩
 clear C0
 cases IQ:jO B
 ·have HF:Hid (WB=B):=ae aid;have HN:=ae (H.aa.n F);clear HR;go_wp2;rw[gS];refine bodyPost_ret (results_none rfl _ _ _) rfl ?_;exact WD
 have Jp:Hid (WB={ (oK B).1 with waits:=(oK B).2 }):=ae aid
 have q1:=λW (k:K w1 W)=>q W (F.tr k)
 clear HR q IQ
 go_upto_region 2 with (fail)
 refine eM 16 [([],[]),([0],[(23,0)]),([1],[(24,1)]),([2],[(25,2)]),([],[]),([4],[(27,4)]),([5],[(28,5)]),([6],[(29,6)]),([],[]),([8],[(31,8)]),([3,7,9],[(26,3),(30,7),(32,9)]),([10],[(33,10)]),([11],[(22,11)]),([11],[(22,11)]),([12],[(34,12)]),([13],[(35,13)])] 94 rfl ak ak ak ak au ?_
 simp only[dR,dN,ew,dP]
 iterate 9 (apply aV.is;intro V W A hp;(try simp only[aI,aJ,aM,aE,aF,ag]at hp);simp[aL,aw,List.lookup,hp,aS,execOp,ay,ag,aN,A,q1,go_sem];rfl)
 refine aV.op (G2 M (lY B)) (Ln _ _) (λV W A hp=>?_) ?_
 ·(try simp only[aI,aJ,aM,aE,aF,ag]at hp)
  simp[aL,aw,List.lookup,hp,aS,execOp,ay,q1,go_sem];refine (C1.aa W (F.tr A)).mono ?_;rintro e w4⟨v4,rfl,Y,k4⟩;exact⟨_,rfl,Y,k4⟩
 refine aV.op (QF M op t) (aic _ _ _) (λV W A hp=>?_) ?_
 ·simp only[aI,aJ,aM,aE,aF,ag]at hp;obtain⟨e3,e7,h9,-⟩:=hp;simp[aL,aw,List.lookup,e3,e7,aS,execOp,ay,go_sem];refine (C2.aa W (F.tr A) (V 9) (Fx.now h9)).mono ?_;rintro e w4⟨v1,v2,rfl,hT,k4⟩;refine⟨_,rfl,⟨v1,v2,rfl,?_,?_⟩,k4⟩
  ·exact (hT.a.less (Y':=M) λk hk=>.inl (bB (HM.aa k hk) (F.tr A).size)).fx λk hk=>bB (HM.aa k hk) (F.tr A).size
  ·exact (hT.b.less (Y':=M) λk hk=>.inl (bB (HM.aa k hk) (F.tr A).size)).fx λk hk=>bB (HM.aa k hk) (F.tr A).size
 refine aV.op (QF M op t) (aic _ _ _) (λV W A hp=>?_) ?_
 ·simp only[aI,aJ,aM,aE,aF,ag]at hp;obtain⟨⟨v1,v2,e,h1,h2⟩,-⟩:=hp;simp[aL,aw,List.lookup,e,aS,execOp,ay,aN,go_sem];exact⟨v1,v2,rfl,h1,h2⟩
 refine aV.op (G2 M op) (Ln _ _) (λV W A hp=>?_) ?_
 ·simp only[aI,aJ,aM,aE,aF,ag]at hp;obtain⟨⟨v1,v2,e,h1,h2⟩,-⟩:=hp;simp[aL,aw,List.lookup,e,aS,execOp,ay,aN,go_sem];exact h1
 refine aV.op (G2 M t) (Ln _ _) (λV W A hp=>?_) ?_
 ·simp only[aI,aJ,aM,aE,aF,ag]at hp;obtain⟨⟨v1,v2,e,h1,h2⟩,-⟩:=hp;simp[aL,aw,List.lookup,e,aS,execOp,ay,aN,go_sem];exact h2
 refine aV.op (G2 M op) (Ln _ _) (λV W A hp=>?_) ?_
 ·exact aie
 refine aV.op (G2 M t) (Ln _ _) (λV W A hp=>?_) ?_
 ·exact aie
 intro V W A hA
 simp only[aJ,aM,eA,ag,Nat.reduceAdd]at hA
 refine bu.nil ?_
 simp only[bF,Act.put,cO,cM,cL,Nat.reduceAdd,hA]
 obtain⟨-,-,-,-,-,-,-,-,-,-,-,-,-,-,h14,G4,-⟩:=hA
 have kA:=F.tr A
 have hb0:=H.aa.st kA
 have CG:=Fx.fix h14 au P8
 have JD:=Fx.fix G4 au P8
 generalize V 14=v14 at *
 generalize V 15=v15 at *
 obtain⟨A4,c4,rfl⟩:=CG.slice
 obtain⟨A5,c5,rfl⟩:=JD.slice
 have G0:=ae CG
 have pL:=ae JD
 have xc:=ae hb0
 have Ef:cW M ⟨g,gl,gd,gr,gt,vd,vr,vp,vh,.slice Al B.st.list.length cl,.slice Aq B.st.prom.length cq,.slice Aa B.st.ab.length ca,vt,iO,.slice Aw B.waits.length cw,kr⟩ B W W:=hb0.n (K.rf W)
 have R5:=ae kA
 have hlb:=N.aa.2.2.2
 have jZ:=N.aa.2.2.1
 clear h14 G4 CG JD C1 C2 q1 A F hb0 kA
 go_wp2_with fail
 go_loopw [7,38] (fun _ i wr=>∃j:Nat,j<=t.length/\i=.int .i64 (j:Int)/\cW M ⟨g,gl,gd,gr,gt,vd,vr,vp,vh,.slice Al B.st.list.length cl,.slice Aq B.st.prom.length cq,.slice Aa B.st.ab.length ca,vt,iO,.slice Aw B.waits.length cw,kr⟩ ((t.take j).foldl (fun b x=>(mG b x).1) B) W wr) (fun _ i _=>t.length-(intOf i).toNat)
 case atStart=>exact⟨0,af,rfl,by simpa using Ef⟩
 case round =>
  clear Ef;obtain⟨j,hj,rfl,p',D,u,C,L⟩:=hrel;by_cases O:j<t.length
  ·have ba:(j:Int)<(t.length:Int):=af;obtain⟨b1,o1,c1,cs1,e9,dK,hcl,Y,hcell⟩:=pL.aa.at j O au;injection e9 with e9 _ gX;subst e9 gX;have HF:=ae (fold_succ (λb x=>(mG b x).1) t B j O);have hm:=N.aa.2.1 _ (bW O);have R:=H7 HG.aa (l:=t.take j) λx s=>(N.aa.2.1 x (lE s)).2
   generalize t[j]=x at *;generalize (t.take j).foldl (λb x=>(mG b x).1) B=Bj at *;have Z:ah M W wr:=u.more xc.aa.sub;have nt:=hcell wr Z;obtain⟨vf,J,rfl,hf,he⟩:=Y wr Z;have q9:∀i,i<8->wr.cell? ⟨b1,o1+j*8+i,none⟩=(aA x vf J)[i]?:=λi hi=>(nt i hi).trans Array.getElem?_toList
   have q0:wr.cell? ⟨b1,o1+j*8,none⟩=some (.int .i64 x.kind):=q9 0 au;have HE:Hid (∀W,K wr W->cR x (.agg (aA x vf J)) W):=ae λW k=>⟨_,_,rfl,dB _ _ _ _ hf k,aW he k⟩
   have s:=ai.new wr 102 (aA x vf J);have k3:K wr (wr.alloc (.cells (aA x vf J) 102)):=(K.rf wr).al _;obtain⟨Af,cf,rfl⟩:=cB hf;obtain⟨Ae,ce,rfl⟩:=az he;clear hcell nt Y hcl dK hf he;go_upto_region 6 with (fail);generalize wr.alloc _=w3 at *;clear q9 q0;have q8:=s.cell;have U:=ae (abt (D.st k3) R.1 x _ (HE.aa w3 k3) hm.2 (tK hm.1));simp only[yA C]at U;have u3:=u.tr (ah.bg k3 _);have AH:=ae L;have uV:=ae C;clear D R C L;go_wp2_with fail
   refine U.aa.mono ?_;rintro e w4⟨rfl,T⟩;have EH:=cW.tr u3 uV.aa AH.aa (λk hk=>.inl hk) T;rw[<- HF.aa]at EH;clear U q8 s T;go_wp2;go_roundw
   case rel=>exact⟨j+1,af,bO,EH⟩
   case measure=>simp[intOf];omega
  ·have ba:¬(j:Int)<(t.length:Int):=af;obtain rfl:j=t.length:=af;rw[mC,<- Z1.aa]at D;have hg1:=H7 HG.aa (l:=t) λx s=>(N.aa.2.1 x s).2
   rw[<- Z1.aa]at hg1;obtain⟨hg1,hs1⟩:=hg1;have azj:Hid (cZ (xI B)=cZ B):=ae (arO hs1);generalize xI B=B1 at *;have U:=ae (Ty D hg1);rw[azj.aa]at U;simp only[yA C]at U;have oU:=acT HG.aa;have Nd:∀m∈cZ B,m.bM.length<=1000000:=λm hm=>by have:=(HG.aa.last hm).2.1;omega
   have azk:=ae (λG (k:K wr G)=>aW ((G0.aa.fx au) wr (u.more xc.aa.sub)) k);have MM:=ae hg1;have M9:=ae D;have AH:=ae L;have uV:=ae C;have tG:∀x∈op,eD x:=λx s=>tK (N.aa.1 x s).1
   have C4:=ae λG (k:K wr G) vk (hk:ar vE (cZ B) vk G)=>apu op (cZ B) _ vk G (azk.aa G k) hk tG jZ af Nd
   clear D hg1 hs1 L C Nd tG;go_wp2_with fail
   refine U.aa.mono ?_;rintro e w6⟨vk,rfl,hFk,k6⟩;have G5:=hFk.now;have C5:=ae (C4.aa w6 k6 vk G5);obtain⟨Ak,ck,rfl⟩:=az G5;clear U C4 hFk G5;go_wp2_with fail
   refine C5.aa.mono ?_;rintro e w7⟨vy,vn,vz,rfl,JE,G5,k7⟩;have tB:=k6.tr k7;have hB7:=M9.aa.st tB;have hBl:=M9.aa.low;have u7:=u.tr (ah.bg tB _);have wK:=k6.size;have R6:Hid (i7 (λk=>M k∨bn p' k) aQ op (.slice A4 op.length c4) w7):=ae (G0.aa.to u7 xc.aa.sub (λk hk s=>by
    rcases s with h|h
    ·exact h
    ·exact xc.aa.sub k ((AH.aa k h).resolve_right af)) au)
   have HY:=ae JE;have HN:=ae G5;have HBS:=ae (λk (hk:bn p' k)=>bB (hBl k (.inr hk)) wK);obtain⟨Ay,cy,hy⟩:=az JE.now;obtain⟨An,cn,hn⟩:=az G5.now;subst hy hn;have Z2:(DZ op (cZ B)).length<=1000000:=bq (lV _ _) jZ;have hnl:(Cj op (cZ B)).length<=1000000:=by unfold Cj;rw[List.length_map];exact bq (lV _ _) jZ
   have Jz:=ae u7;have qH:bC (λk=>((M k∨bn p' k)∨(Value.slice none 0 0).ownBlock=some k)∨bn p' k) p' B1 w7:=hB7.less (λk hk=>.inr hk) λk hk=>by
    rcases hk with (h|h)|h
    ·exact h
    ·simp[Value.ownBlock]at h
    ·exact .inr h
   have fX:=aT.nil (λk=>(M k∨bn p' k)∨w7.heap.size<=k) w7.heap.size 102 aQ w7;clear C5 JE G5 k7 hB7 hBl u u7;go_wp2_with fail
   go_step3;go_wp2_with fail
   go_loopw [11,13,14,56] (fun o _ _ i wr=>∃(j:Nat) (p'':cV),j<=op.length/\i=.int .i64 (j:Int)/\bC (fun k=>((M k∨bn p' k)∨o.ownBlock=some k)∨bn p'' k) p'' ((op.take j).foldl (kQ (cZ B)) (B1,[])).1 wr/\ah (bn p') w7 wr/\p''.key=(g,gd)/\(∀k,bn p'' k->bn p' k∨w7.heap.size<=k)/\(∀k,o.ownBlock=some k->¬bn p'' k)/\aT (fun k=>(M k∨bn p' k)∨w7.heap.size<=k) w7.heap.size 102 aQ ((op.take j).foldl (kQ (cZ B)) (B1,[])).2 o wr) (fun _ _ _ i _=>op.length-(intOf i).toNat)
   case atStart=>exact⟨0,p',af,rfl,qH,ah.rf _ _,uV.aa,λk hk=>.inl hk,λk hk=>Ww,fX⟩
   case round =>
    clear qH fX;obtain⟨j,p2,hj,rfl,D,u,C,L,JF,I⟩:=hrel;by_cases O:j<op.length
    ·have ba:(j:Int)<(op.length:Int):=af;obtain⟨b1,o1,c1,cs1,e9,dK,hcl,Y,hcell⟩:=R6.aa.at j O au;injection e9 with e9 _ gX;subst e9 gX;have JG:=ae (fold_succ (kQ (cZ B)) op (B1,[]) j O);have hm:=N.aa.1 _ (bW O);have hyh:=awm (kids:=cZ B) (bW O);have Ni:=axp (kids:=cZ B) (bW O);have R:=J3 (kids:=cZ B) (p:=(B1,[])) (l:=op.take j) MM.aa λx s=>(N.aa.1 x (lE s)).2
     have RV:=R.2.2.2;replace R:=R.1;generalize op[j]=x at *;generalize (op.take j).foldl (kQ (cZ B)) (B1,[])=Q at *;obtain⟨P',gD⟩:∃P',Hid (P'=(op.take (j+1)).foldl (kQ (cZ B)) (B1,[])):=⟨_,ae rfl⟩;replace JG:Hid (P'=kQ (cZ B) Q x):=ae (gD.aa.trans JG.aa);obtain⟨Bj,lj⟩:=Q;simp only at D I R RV;have Z:ah (λk=>M k∨bn p' k) w7 wr:=u.more λk hk=>.inr hk
     have nt:=hcell wr Z;obtain⟨vf,J,rfl,hf,he⟩:=Y wr Z;have jH:Fx (λk=>(M k∨bn p' k)∨w7.heap.size<=k) (λW=>aQ.rel x (aA x vf J).toList W) wr:=Y.to Z (λ_ h=>h) λk hk s=>s.resolve_right af
     have q9:∀i,i<8->wr.cell? ⟨b1,o1+j*8+i,none⟩=(aA x vf J)[i]?:=λi hi=>(nt i hi).trans Array.getElem?_toList
     have q0:wr.cell? ⟨b1,o1+j*8,none⟩=some (.int .i64 x.kind):=q9 0 au;have HE:Hid (∀W,K wr W->cR x (.agg (aA x vf J)) W):=ae λW k=>⟨_,_,rfl,dB _ _ _ _ hf k,aW he k⟩
     have s:=ai.new wr 102 (aA x vf J);have k3:K wr (wr.alloc (.cells (aA x vf J) 102)):=(K.rf wr).al _;have bN:=I.blk;obtain⟨Af,cf,rfl⟩:=cB hf;obtain⟨Ae,ce,rfl⟩:=az he;obtain⟨Ao,co,rfl⟩:=I.slice;have R7:=ae jH;have iW:=u.size;have HYr:=ae (λG (k:K wr G)=>aW (HY.aa wr (u.more HBS.aa)) k);have HNr:=ae (λG (k:K wr G)=>aW (HN.aa wr (u.more HBS.aa)) k);have Z3:=ae D;have R8:=ae u;have QG:=ae C;have G7:=ae L;have yH:=ae JF;have HOr:=ae I;have Zm:=ae bN;clear hcell nt Y hcl dK hf he jH Z D u C L JF I bN;go_upto_region 13 with (fail);generalize wr.alloc _=w8 at *;obtain⟨ga,lQ⟩:∃ga,Hid (ga=wr.heap.size):=⟨_,ae rfl⟩;rw[<- lQ.aa]at s⊢;clear q9 q0;have C6:=ae (N9 (DZ op (cZ B)) _ (fQ (ax x)) 116 #[.pointer (some ⟨ga,0,none⟩)] w8 (HYr.aa w8 k3) Z2 (λ_ _=>nz) (λW k y _ u hu=>aqj y x u _ _ ga W hu (s.below k s.lt)));have GY:Hid ((DZ op (cZ B)).any (fQ (ax x))=decide (jv (cZ B) (ax x)=1)):=ae hyh;rw[GY.aa]at C6;clear hyh GY;go_wp2_with fail
     refine C6.aa.mono ?_;rintro e w9⟨rfl,k9⟩;have tI:=k3.tr k9;have mK:=s.below k9 s.lt;have q8:=mK.cell;have ZA:=HE.aa w9 tI;have sI:=Z3.aa.st tI;have iN:=kg QG.aa;have Yp:=acU (cZ B) (ax x);have R9:Hid (P'=if jv (cZ B) (ax x)=1 then (if (mG Bj x).2 then ((mG Bj x).1,lj)else (Bj,lj++[x]))else if jv (cZ B) (ax x)=2 then (if (nB Bj (ax x)).2 then ((nB Bj (ax x)).1,lj)else (Bj,lj++[x]))else (Bj,lj++[x])):=ae JG.aa;clear C6 s JG;generalize jv (cZ B) (ax x)=sx at *;rcases Yp with rfl|rfl|rfl
     ·have HQ:Hid (P'=(Bj,lj++[x])):=ae WE;have E:=ae λW (k:K w9 W)=>EN (Cj op (cZ B)) (ax x) _ W (HNr.aa W (tI.tr k)) hnl
      rw[Ni]at E;clear R9 Ni;go_wp2_with fail
      refine (E.aa w9 (K.rf _)).mono ?_;rintro e iB⟨rfl,oC⟩;have QH:=tI.tr oC;have xV:=Z3.aa.st QH;have uR:=R8.aa.tr (ah.bg QH _);have Eb:=QG.aa;have Ec:=G7.aa;have DU:=yH.aa;have nH:=HOr.aa.st QH;clear E iN;have LU:ai iB ga 102 (aA x (.slice Af x.f.length cf) (.slice Ae x.es.length ce)):=mK.below oC mK.lt;have Nj:=LU.cell;have Z4:=ae (R7.aa.k QH);have kA:K iB (iB.alloc (.cells (aA x (.slice Af x.f.length cf) (.slice Ae x.es.length ce)) 102)):=(K.rf iB).al _;have EF:=nH.st kA;have QI:=nH.blk;have hr:=fE.new (S:=aQ) (e:=102) (v:=.agg (aA x (.slice Af x.f.length cf) (.slice Ae x.es.length ce))) Z4.aa 0 (fw _);have LV:=xV.st kA;have I2:=uR.size;have yI:=ae (And.intro xV (And.intro uR (And.intro Eb (And.intro Ec (And.intro DU nH)))));have I3:=ae LV;have azl:lj.length<=1000000:=by simp at RV;omega
      clear xV uR Eb Ec DU nH LV sI q8;go_wp2_with (at_builtin;refine jK rfl _ _ 39 rfl _ 8 96 rG rfl rfl EF _ rfl x ?p1 ?p2 ?p3 ?_)
      case p1 => exact aif
      case p2=>omega
      case p3=>exact bq I2 kA.size
      intro v11 yJ sg wG FB zw;have akY:=ae sg;have hBw:bC (λk=>((M k∨bn p' k)∨v11.ownBlock=some k)∨bn p2 k) p2 Bj yJ:=I3.aa.far (X:=λk=>(Value.slice Ao lj.length co).ownBlock=some k) (ah.fM wG λk e=>e) (λk hk=>.inl (.inr hk)) (λk hk=>yI.aa.2.2.2.2.1 k hk) (λk hk h=>by
       rcases h with (h|h)|h
       ·exact .inl (.inl h)
       ·exact aih
       ·exact .inr h) (λk hk=>.inr hk) (λk hk=>by
        rcases hk with (h|h)|h
        ·exact aii
        ·exact (sg.blk k h).2
        ·exact bB (I3.aa.low k (.inr h)) wG.size)
      have Lu:∀k,v11.ownBlock=some k->¬bn p2 k:=λk hk h=>by exact aij
      have AJ:ah (bn p') w7 yJ:=(yI.aa.2.1.tr (ah.bg kA _)).iA (ah.fM (X:=λk=>(Value.slice Ao lj.length co).ownBlock=some k) wG λk e=>e) λk hk h=>by have:=(QI k h).1;omega
      have HH:=ae (And.intro hBw (And.intro AJ (And.intro yI.aa.2.2.1 (And.intro yI.aa.2.2.2.1 Lu))));clear hBw AJ Lu hr EF sg wG FB zw Nj LU;go_wp2;go_roundw
      case rel=>exact⟨j+1,p2,af,bO,WG,HH.aa.2.1,HH.aa.2.2.1,HH.aa.2.2.2.1,HH.aa.2.2.2.2,aik⟩
      case measure=>simp[intOf];omega
     ·have E:=ae (abt (M:=λk=>((M k∨bn p' k)∨(Value.slice Ao lj.length co).ownBlock=some k)∨bn p2 k) sI R x _ ZA hm.2 (tK hm.1));simp only[iN]at E;have nP:Hid ((mG Bj x).2=false->(mG Bj x).1=Bj):=ae adA;clear Ni iN;generalize mG Bj x=LB at *;obtain⟨L1,L2⟩:=LB;simp only at E nP R9;go_wp2_with fail
      refine E.aa.mono ?_;rintro e iB⟨rfl,T⟩;obtain⟨p3,oq,u3,gW,Nk⟩:=T;have nr:=tI.size;have uR:ah (bn p') w7 iB:=(R8.aa.tr (ah.bg tI _)).iA u3 λk hk h=>(G7.aa k h).resolve_right af
      have Ec:∀k,bn p3 k->bn p' k∨w7.heap.size<=k:=λk hk=>by exact ail
      have DU:∀k,(Value.slice Ao lj.length co).ownBlock=some k->¬bn p3 k:=λk hk h=>by exact aim
      have nH:=(HOr.aa.st tI).to (Y':=λk=>(M k∨bn p' k)∨w7.heap.size<=k) u3 (λk hk=>(G7.aa k hk).imp .inr id) (λk hk h=>yH.aa k hk h) λk _ hk=>.inl hk
      have xV:bC (λk=>((M k∨bn p' k)∨(Value.slice Ao lj.length co).ownBlock=some k)∨bn p3 k) p3 L1 iB:=oq.less (λk hk=>.inr hk) λk hk=>by exact ain
      have Eb:=gW.trans QG.aa;clear E;exact aio
     ·have E:=ae λW (k:K w9 W)=>EN (Cj op (cZ B)) (ax x) _ W (HNr.aa W (tI.tr k)) hnl
      rw[Ni]at E;clear Ni;go_wp2_with fail
      refine (E.aa w9 (K.rf _)).mono ?_;rintro e w9'⟨rfl,Z5⟩;replace tI:=tI.tr Z5;replace mK:=mK.below Z5 mK.lt;replace q8:=mK.cell;replace sI:=sI.st Z5;have C8:=ae (aoM (M:=λk=>((M k∨bn p' k)∨(Value.slice Ao lj.length co).ownBlock=some k)∨bn p2 k) sI R (ax x) ⟨hm.2.2.1,hm.2.2.2.2.1,hm.2.2.2.2.2.1⟩);simp only[iN]at C8;have nP:Hid ((nB Bj (ax x)).2=false->(nB Bj (ax x)).1=Bj):=ae λh=>by
       unfold nB at h⊢;split
       ·rename_i hh;rw[if_pos hh]at h;cases h
       ·rfl
      clear iN E;generalize nB Bj (ax x)=LB at *;obtain⟨L1,L2⟩:=LB;simp only at C8 nP R9;go_wp2_with fail
      refine C8.aa.mono ?_;rintro e iB⟨rfl,T⟩;obtain⟨p3,oq,u3,gW,Nk⟩:=T;have nr:=tI.size;have uR:ah (bn p') w7 iB:=(R8.aa.tr (ah.bg tI _)).iA u3 λk hk h=>(G7.aa k h).resolve_right af
      have Ec:∀k,bn p3 k->bn p' k∨w7.heap.size<=k:=λk hk=>by exact ail
      have DU:∀k,(Value.slice Ao lj.length co).ownBlock=some k->¬bn p3 k:=λk hk h=>by exact aim
      have nH:=(HOr.aa.st tI).to (Y':=λk=>(M k∨bn p' k)∨w7.heap.size<=k) u3 (λk hk=>(G7.aa k hk).imp .inr id) (λk hk h=>yH.aa k hk h) λk _ hk=>.inl hk
      have xV:bC (λk=>((M k∨bn p' k)∨(Value.slice Ao lj.length co).ownBlock=some k)∨bn p3 k) p3 L1 iB:=oq.less (λk hk=>.inr hk) λk hk=>by exact ain
      have Eb:=gW.trans QG.aa;clear C8;exact aio
    ·have ba:¬(j:Int)<(op.length:Int):=af;obtain rfl:j=op.length:=af;rw[mC,<- HWD.aa]at D I;have uf:ah (bn ⟨g,gl,gd,gr,gt,vd,vr,vp,vh,.slice Al B.st.list.length cl,.slice Aq B.st.prom.length cq,.slice Aa B.st.ab.length ca,vt,iO,.slice Aw B.waits.length cw,kr⟩) W wr:=Jz.aa.iA u λk hk h=>(AH.aa k h).resolve_right af
     have G8:=Jz.aa.size;have Z6:∀k,bn p2 k->bn ⟨g,gl,gd,gr,gt,vd,vr,vp,vh,.slice Al B.st.list.length cl,.slice Aq B.st.prom.length cq,.slice Aa B.st.ab.length ca,vt,iO,.slice Aw B.waits.length cw,kr⟩ k∨W.heap.size<=k:=λk hk=>by
      rcases L k hk with h|h
      ·exact AH.aa k h
      ·exact .inr af
     obtain⟨Ao,co,rfl⟩:=I.slice;have bN:=I.blk;have hMl:=HM.aa;have lP:=R5.aa.size;have akZ:i7 (λk=>M k∨bn p2 k) aQ (oK B).2 _ wr:=I.GQ (λk hk=>by
      rcases hk with h|h
      ·exact .inl (.inl (.inl h))
      ·rcases L k h with h|h
       ·exact .inl (.inl (.inr h))
       ·exact .inl (.inr h)) (λk hk h=>by
        rcases h with h|h
        ·have:=hMl k h;have:=(bN k hk).1;have:=Jz.aa.size;omega
        ·exact JF k hk h)
     have hb2:bC (λk=>M k∨bn p2 k) p2 (oK B).1 wr:=D.less (λk hk=>.inr hk) λk hk=>by
      rcases hk with h|h
      ·exact .inl (.inl (.inl h))
      ·exact .inr h
     have hfin:=hb2.ay2 (akZ.fx au);have u9:ah (bn p2) wr (wr.setCell ⟨p2.g,13,none⟩ (.slice Ao (oK B).2.length co)):=ah.b6 (X:=bn p2) (.inl rfl) 13 _;have HF:Hid (∀W9,W9=wr.setCell ⟨p2.g,13,none⟩ (.slice Ao (oK B).2.length co)->bC (λk=>M k∨bn p2 k) { p2 with vw:=.slice Ao (oK B).2.length co } { (oK B).1 with waits:=(oK B).2 } W9):=ae λW9 e=>e▸hfin
     rw[kg C]at u9;have Gt:=ae (uf.iA u9 λk hk h=>(Z6 k h).resolve_right af);have HX9:=ae Z6;have ak0:=ae C;have qg:=hb2.blk.cell;have zg:=hb2.blk.frozen;rw[kg C]at qg zg;clear D L JF I bN hMl lP akZ hb2 hfin u9 uf Z6 C u G8;go_wp2;first|go_end0|(rw[Exit.noGoto_normal];go_end0)|(simp only[Exit.noGoto];go_end0)
     refine⟨rfl,?_⟩;rw[Jp.aa];have T:cW M ⟨g,gl,gd,gr,gt,vd,vr,vp,vh,.slice Al B.st.list.length cl,.slice Aq B.st.prom.length cq,.slice Aa B.st.ab.length ca,vt,iO,.slice Aw B.waits.length cw,kr⟩ { (oK B).1 with waits:=(oK B).2 } W (wr.setCell ⟨g,13,none⟩ (.slice Ao (oK B).2.length co)):=⟨{ p2 with vw:=.slice Ao (oK B).2.length co },HF.aa _ (by rw[kg ak0.aa]),Gt.aa,ak0.aa,HX9.aa⟩;exact T.xe R5.aa λk hk=>HM.aa k (xc.aa.sub k hk)
structure sN(M:Nat->Prop)(p:cV)(w w9:World)(o9:Value)(p2:cV)(B:aB)(l:List av)(o:Value)(W:World):Prop where
 br:bC (λk=>(M k∨o.ownBlock=some k)∨bn p2 k) p2 B W
 uw:ah (bn p) w W
 u9:ah (λk=>bn p k∨o9.ownBlock=some k) w9 W
 key:p2.key=p.key
 new:∀k,bn p2 k->bn p k∨w9.heap.size<=k
 no:∀k,o.ownBlock=some k->¬bn p2 k
 Sa:∀k,o.ownBlock=some k->o9.ownBlock=some k∨w9.heap.size<=k
 own:aT (λ_=>True) w.heap.size 46 bI l o W
 hz:w.heap.size<=w9.heap.size
 low:∀k,bn p k->k<w.heap.size
 QJ:∀k,M k->k<w.heap.size
section
variable {M:Nat->Prop} {p p2:cV} {w w9 W W':World} {o9 o:Value} {B B':aB} {l l':List av}
theorem aT.aj0{Y:Nat->Prop}{base:Nat}{e:TypeId}(h:aT Y base e bI l o W):aT (λ_=>True) base e bI l o W:=by obtain⟨css,s,i,j⟩:=h;exact⟨css,s,i,λ_ _=>j W (ah.rf _ _)⟩
theorem aT.ak1{N:Nat->Prop}{base:Nat}{e:TypeId}(h:aT (λ_=>True) base e bI l o W)(u:ah N W W')(hN:∀k,o.ownBlock=some k->¬N k):aT (λ_=>True) base e bI l o W':=by exact aip
theorem sN.start(h:bC M p B w)(k:K w w9)(y:aT (λ_=>True) w.heap.size 46 bI l o9 w9):sN M p w w9 o9 p B l o9 w9:=by
 have t:=y.blk;have u:∀k,bn p k->k<w.heap.size:=λk hk=>h.low k (h.sub k hk)
 refine⟨h.far (X:=λ_=>False) (ah.bg k _) (λ_ h=>h.elim) (λ_ h=>h.elim) (λj i s=>?_) (λj i=>.inr i) (λj i=>?_),ah.bg k _,ah.rf _ _,rfl,λ_ h=>.inl h,λj i s=>by have:=(t j i).1;have:=u j s;omega,λ_ h=>.inl h,y,k.size,u,h.low⟩
 ·rcases s with (s|s)|s
  ·exact s
  ·have:=(t j s).1;omega
  ·exact h.sub j s
 ·rcases i with (i|i)|i
  ·exact bB (h.low j i) k.size
  ·exact (t j i).2
  ·exact bB (u j i) k.size
theorem sN.st(h:sN M p w w9 o9 p2 B l o W)(k:K W W'):sN M p w w9 o9 p2 B l o W' :=
 ⟨h.br.st k,h.uw.tr (ah.bg k _),h.u9.tr (ah.bg k _),h.key,h.new,h.no,h.Sa,h.own.st k,h.hz,h.low,h.QJ⟩
theorem sN.note(h:sN M p w w9 o9 p2 B l o W)(y:cW (λk=>(M k∨o.ownBlock=some k)∨bn p2 k) p2 B' W W'):∃p3,sN M p w w9 o9 p3 B' l o W':=by
 obtain⟨p3,A,u,hg,s⟩:=y;have C:=h.u9.size;have D:=h.hz;have t:=h.own.blk;refine⟨p3,A.less (λk hk=>.inr hk) (λk hk=>hk.imp .inl λh=>h),h.uw.iA u λk hk i=>(h.new k i).resolve_right af,h.u9.iA u λk hk i=>(h.new k i).imp (λh=>h) λh=>af,hg.trans h.key,λk hk=>?_,λk hk i=>?_,h.Sa,h.own.ak1 u λk hk=>h.no k hk,h.hz,h.low,h.QJ⟩
 ·rcases s k hk with j|j
  ·exact h.new k j
  ·exact .inr af
 ·rcases s k i with j|j
  ·exact h.no k hk j
  ·have:=(t k hk).2;omega
theorem sN.push(h:sN M p w w9 o9 p2 B l o W){o':Value}(t:aT (λ_=>True) w.heap.size 46 bI l' o' W')(hg:W.grownBy W' o.ownBlock)(C:o'.ownBlock=o.ownBlock∨o'.ownBlock=some W.heap.size):sN M p w w9 o9 p2 B l' o' W':=by
 have u:ah (λk=>o.ownBlock=some k) W W':=ah.fM hg λk e=>e
 have y:=h.own.blk;have A:=t.blk;have D:=h.u9.size;have s:∀k,o'.ownBlock=some k->o.ownBlock=some k∨W.heap.size<=k:=λk hk=>by
  rcases C with e|e
  ·exact .inl (e▸hk)
  ·rw[e]at hk;injection hk with hk;exact .inr af
 refine⟨h.br.far u (λk hk=>.inl (.inr hk)) (λk hk=>h.no k hk) (λk hk i=>?_) (λk hk=>.inr hk) (λk hk=>?_),h.uw.iA u λk hk i=>by have:=(y k i).1;omega,h.u9.iA u λk hk i=>(h.Sa k i).elim .inr λh=>af,h.key,h.new,λk hk i=>?_,λk hk=>?_,t,h.hz,h.low,h.QJ⟩
 ·rcases i with (i|i)|i
  ·exact .inl (.inl i)
  ·exact .inl (.inr ((s k i).resolve_right af))
  ·exact .inr i
 ·rcases hk with (hk|hk)|hk
  ·exact bB (h.br.low k (.inl (.inl hk))) u.size
  ·exact (A k hk).2
  ·exact bB (h.br.low k (.inr hk)) u.size
 ·rcases s k hk with j|j
  ·exact h.no k j i
  ·have:=h.br.low k (.inr i);omega
 ·rcases s k hk with j|j
  ·exact h.Sa k j
  ·exact .inr af
theorem sN.fin(h:sN M p w w9 o9 p2 B l o W):cW M p { B with refused:=l } w (W.setCell ⟨p.g,11,none⟩ o):=by
 have hg:p2.g=p.g:=yA h.key;have s:=h.own.blk;have y:Fx (λk=>M k∨bn p2 k) (λW=>ar bI l o W) W:=λC u=>(h.own.ak1 u λk hk i=>by
  rcases i with i|i
  ·have:=(s k hk).1;have:=h.QJ k i;omega
  ·exact h.no k hk i).ar
 have hb:bC (λk=>M k∨bn p2 k) p2 B W:=h.br.less (λk hk=>.inr hk) λk hk=>hk.imp .inl λh=>h
 have A:=hb.ay3 y;rw[<- hg];have t:∀k,bn { p2 with vf:=o } k->bn p2 k:=λk hk=>hk
 refine⟨{ p2 with vf:=o },A,h.uw.iA (ah.b6 (X:=λk=>k=p2.g) rfl 11 o) λk hk e=>.inl (e.trans hg),h.key,λk hk=>?_⟩;rcases h.new k (t k hk)with j|j
 ·exact .inl j
 ·have:=h.hz;exact .inr af
end
def rm(told:List av)(p:List av×List aq)(x:aq):List av×List aq:=if dx told (ax x)then (p.1++[ax x],p.2)else (p.1,p.2++[x])
theorem axq(B:aB)(l:List aq):l.foldl (rm B.told) ([],[])=(s9 B l,mi B l):=by
 have key:∀(l:List aq) (p:List av×List aq),l.foldl (rm B.told) p=(p.1++s9 B l,p.2++mi B l):=by
  intro l
  induction l with
  | nil=>intro p;simp[s9,mi]
  | cons x l i => intro p;rw[List.foldl_cons,i];unfold rm s9 mi;cases h:dx B.told (ax x) <;> simp[h]
 simpa using key l ([],[])
theorem awn(told:List av):∀(l:List aq) (p:List av×List aq),(l.foldl (rm told) p).1.length<=p.1.length+l.length/\(l.foldl (rm told) p).2.length<=p.2.length+l.length:=by
 intro l
 induction l with
 | nil=>intro p;simp
 | cons x l i =>
  intro p;have:=i (rm told p x);have j:(rm told p x).1.length<=p.1.length+1/\(rm told p x).2.length<=p.2.length+1:=by unfold rm;split <;> simp
  exact IB
theorem abe{s:bA}{y:aq}:∀ {l:List aq} {p:List aq×List av},y∈(l.foldl (iR s) p).1->y∈p.1∨y∈l:=by
 intro l
 induction l with
 | nil=>intro p h;exact .inl h
 | cons x l i =>
  intro p h;rcases i h with h|h
  ·unfold iR at h;split at h
   ·exact .inl h
   ·split at h
    ·rcases List.mem_append.1 h with h|h
     ·exact .inl h
     ·exact .inr (by simp at h;simp[h])
    ·exact .inl h
  ·exact .inr tQ
theorem acW{B:aB}{r:Rec}(h:(dt B r).2=false):(dt B r).1=B:=by
 unfold dt at h⊢;split
 ·rename_i i;rw[if_pos i]at h;split
  ·rfl
  ·rename_i j;rw[j]at h;cases h
 ·rfl
theorem aqr{p:aB×List av}{x:aq}(h:bH p.1)(i:cK x):bH (iD p x).1:=by
 unfold iD;split
 ·exact H5 h ⟨PI,DD,i,PI,DD,DD⟩
 ·exact h
theorem ab9{l:List aq}:∀ {p:aB×List av},bH p.1->(∀x∈l,cK x)->bH (l.foldl iD p).1/\(l.foldl iD p).2.length<=p.2.length+l.length:=by
 induction l with
 | nil=>intro p h _;exact⟨h,aj⟩
 | cons x l s =>
  intro p h i;have j:=s (aqr h (i x aj)) λy hy=>i y Bd
  have t:(iD p x).2.length<=p.2.length+1:=by unfold iD;split <;> simp
  refine⟨j.1,?_⟩;have:=j.2;exact IB
theorem aon{M:Nat->Prop}{p:cV}{B:aB}{w:World}(h:bC M p B w)(hG:bH B)(l:List aq)(va:Value)(hl:Fx M (λW=>ar aQ l va W) w)(hok:∀x∈l,bP x=true/\cK x)(hlen:l.length<=16) :
 Calls prog 122 #[.pointer (some ⟨p.g,0,none⟩),va] w λe w'=>e=.returned (.tuple #[])/\cW M p (sZ B l) w w':=by
 have HR:Hid (sZ B l={ (rX B l).1 with refused:=(rX B l).2 }):=ae rfl
 have Z7:Hid (rX B l=(nV B.st (mi B l)).1.foldl iD (B,s9 B l++(nV B.st (mi B l)).2)):=ae rfl
 have HME:=ae (axq B l)
 have uq:=ae λj=>awn B.told (l.take j) ([],[])
 have iZ:=ae hok
 have H:=ae h
 have HG:=ae hG
 have Q1:=ae λW (k:K w W) a=>(Ig Qs underlying93 (V5 W) (h.vA.st k) a).1
 simp only[ab0]at Q1
 have JB:=II hl.now
 have hs1:=az h.bL.now.list
 have dX:=az h.bL.now.prom
 have dF:=az h.bL.now.ab
 have hs4:=az h.bL.now.eX
 have CP:=ae λW (k:K w W) ml vm (hm:ar aQ ml vm W) (I:∀x∈ml,eD x) (h2:ml.length<=500000)=>aoP B.st ml p.vl p.vq p.va vm W ⟨_,_,_,rfl,(h.bL.at k).list,(h.bL.at k).prom,(h.bL.at k).ab⟩ hm I ⟨Bf,Bf,Bf⟩ h2
 have q:=h.q
 generalize sZ B l=R at *
 obtain⟨g,gl,gd,gr,gt,vd,vr,vp,vh,vl,vq,vab,vt,iO,vw,kr⟩:=p
 simp only at q Q1 hs1 dX dF hs4 CP
 obtain⟨Al,cl,rfl⟩:=hs1
 obtain⟨Aq,cq,rfl⟩:=dX
 obtain⟨Ab,cb,rfl⟩:=dF
 obtain⟨Ar,cr,rfl⟩:=hs4
 obtain⟨A,c,rfl⟩:=JB.slice
 have HLA:=ae JB
 obtain⟨Nl,Yq⟩:∃n:Nat,Hid (n=0):=⟨0,ae rfl⟩
 have hT0:lK Nl w.heap.size 46 bI ([]:List av) (.slice none 0 0) 102 aQ ([]:List aq) (.slice none 0 0) w:=lK.Yj (aT.nil _ _ _ _ _) (by rw[Yq.aa];exact fw _)
 have kk:=K.rf w
 clear h hG hl hok JB
 go_enter func122,ntmps122
 go_wp2_with fail
 go_loopw [5,6,8,9,10,19] (fun o1 o2 _ _ _ i W=>∃j:Nat,j<=l.length/\i=.int .i64 (j:Int)/\lK Nl w.heap.size 46 bI ((l.take j).foldl (rm B.told) ([],[])).1 o1 102 aQ ((l.take j).foldl (rm B.told) ([],[])).2 o2 W/\K w W) (fun _ _ _ _ _ i _=>l.length-(intOf i).toNat)
 case atStart=>exact⟨0,af,rfl,by simpa using hT0,kk⟩
 case round =>
  clear hT0 kk;obtain⟨j,hj,rfl,E,O⟩:=hrel;by_cases hlt:j<l.length
  ·have ba:(j:Int)<(l.length:Int):=af;obtain⟨b1,off,c1,cs1,Q,dK,dH,hF,hcell⟩:=HLA.aa.at j hlt au;injection Q with Q _ gX;subst Q gX;have HF:=ae (fold_succ (rm B.told) l ([],[]) j hlt);have hpl:=uq.aa j;generalize l[j]=x at *;generalize (l.take j).foldl (rm B.told) ([],[])=P at *;obtain⟨F,gD⟩:∃F,Hid (F=(l.take (j+1)).foldl (rm B.told) ([],[])):=⟨_,ae rfl⟩;replace HF:Hid (F=rm B.told P x):=ae (gD.aa.trans HF.aa);have I1:P.1.length<=500000:=IC;have LO:P.2.length<=500000:=IC;obtain⟨P1,P2⟩:=P;simp only at E I1 LO;have uM:ah (λk=>w.heap.size<=k) w wr:=ah.bg O _;have nt:=hcell wr uM;have R7:=ae hF;obtain⟨vf,L,rfl,hf,he⟩:=hF wr uM;have q9:∀i,i<8->wr.cell? ⟨b1,off+j*8+i,none⟩=(aA x vf L)[i]?:=λi hi=>(nt i hi).trans Array.getElem?_toList
   have q0:wr.cell? ⟨b1,off+j*8,none⟩=some (.int .i64 x.kind):=q9 0 au;have t:=ai.new wr 102 (aA x vf L);have k3:K wr (wr.alloc (.cells (aA x vf L) 102)):=(K.rf wr).al _;obtain⟨Af,cf,rfl⟩:=cB hf;obtain⟨Ae,ce,rfl⟩:=az he;obtain⟨A1,c1',rfl⟩:=E.a.slice;obtain⟨A3,c3,rfl⟩:=E.b.slice;clear hcell nt hF dH dK hf he hpl;go_upto_region 6 with (fail);have ED:=E.st k3;have cS:=O.tr k3;generalize wr.alloc _=w3 at *;clear q9 q0 E;have q8:=t.cells;have q1:=λW (k:K w3 W)=>q W (cS.tr k)
   obtain⟨vz,hvz⟩:∃vz,vz=(qV (og B.told) (ax x)).getD (.int .i64 0):=⟨_,rfl⟩;have ql:∀W,K w3 W->(Instr.lookup 93 (.map (some gt)) (.agg #[.int .i64 x.br,.int .u64 (x.life:Int),.int .u64 (x.cI:Int)]) true).run prog W=.ok (.tuple #[vz,.bool (dx B.told (ax x))]) W:=λW k=>by rw[hvz];exact Q1.aa W (cS.tr k) (ax x)
   clear hvz;refine eM 12 [([],[]),([0],[(24,0)]),([1],[(25,1)]),([2],[(26,2)]),([],[]),([4],[(28,4)]),([3,5],[(27,3),(29,5)]),([6],[(30,6)]),([7],[(23,7)]),([7],[(23,7)]),([8],[(31,8)]),([9],[(32,9)])] 77 rfl ak ak ak ak au ?_;simp only[dR,dN,ew,dP];iterate 12 (apply aV.is;intro V W kW hp;(try simp only[aI,aJ,aM,aE,aF,ag]at hp);simp[aL,aw,List.lookup,hp,aS,execOp,ay,ag,aN,kW,q1,q8,ql,go_sem];rfl)
   intro V W kW hA;simp only[aJ,aM,eA,ag,Nat.reduceAdd]at hA;refine bu.nil ?_;simp only[bF,Act.put,cO,cM,cL,Nat.reduceAdd,hA];have Z:=ED.st kW;have gB:=cS.tr kW;have bQ:=t.below kW t.lt;have J:=Z.a.blk;have dU:=Z.b.blk;clear hA ED q8 q1 ql t kW cS k3;generalize W=D at *;have q9:=bQ.cell;cases ht:dx B.told (ax x)
   ·have HP:Hid (F=(P1,P2++[x])):=ae aiq;have jH:Fx (λk=>(k<Nl∨(Value.slice A1 P1.length c1').ownBlock=some k)∨(Value.slice A3 P2.length c3).ownBlock=some k) (λW=>aQ.rel x (Value.agg (aA x (.slice Af x.f.length cf) (.slice Ae x.es.length ce))).cells.toList W) D:=λW' u=>R7.aa W' ((ah.bg gB _).iA u λk hk h=>by
     rcases h with (h|h)|h
     ·have:=Yq.aa;omega
     ·exact (J k h).1
     ·exact (dU k h).1)
    have hr:=fE.new (S:=aQ) (e:=102) (v:=.agg (aA x (.slice Af x.f.length cf) (.slice Ae x.es.length ce))) jH 0 (fw _);have U:K D (D.alloc (.cells (aA x (.slice Af x.f.length cf) (.slice Ae x.es.length ce)) 102)):=(K.rf D).al _;have lB:=Z.st U;have il:=gB.tr U;have nr:=il.size;clear Z jH ht;go_wp2_with (at_builtin;refine jK rfl _ _ 39 rfl _ 8 96 rG rfl rfl lB.b _ rfl x ?p1 ?p2 ?p3 ?_)
    case p1=>exact hr
    case p2=>omega
    case p3=>simpa using nr
    intro v9 w9 bG bJ dc bo;have LQ:=(lB.swap.push bG bJ pO).swap;exact air
   ·have HP:Hid (F=(P1++[ax x],P2)):=ae aiq;have hr:=fE.new (S:=bI) (e:=46) (x:=ax x) (v:=.agg (bZ (ax x))) (w:=D) (N:=λk=>(k<Nl∨(Value.slice A3 P2.length c3).ownBlock=some k)∨(Value.slice A1 P1.length c1').ownBlock=some k) (λW u=>rfl) 0 (fw _);have U:K D (D.alloc (.cells (bZ (ax x)) 46)):=(K.rf D).al _;have lB:=Z.st U;have il:=gB.tr U;have nr:=il.size;clear Z ht;go_wp2_with (at_builtin;refine jK rfl _ _ 32 rfl _ 3 24 uJ rfl rfl lB.a _ rfl (ax x) ?p1 ?p2 ?p3 ?_)
    case p1=>exact hr
    case p2=>omega
    case p3=>simpa using nr
    intro v9 w9 bG bJ dc bo;have LQ:=lB.push bG bJ pO;exact air
  ·have ba:¬(j:Int)<(l.length:Int):=af;obtain rfl:j=l.length:=af;rw[mC,HME.aa]at E;simp only at E;have zy:∀x∈mi B l,bP x=true/\cK x:=λx t=>iZ.aa x (List.mem_filter.1 t).1
   have tz:(mi B l).length<=16:=bq (lV _ _) hlen;have hrn:(s9 B l).length<=16:=by unfold s9;rw[List.length_map];exact bq (lV _ _) hlen
   have C2:=ae (CP.aa wr O (mi B l) _ E.b.ar (λx t=>tK (zy x t).1) af);have Ru:∀y∈(nV B.st (mi B l)).1,bP y=true/\cK y:=λy hy=>zy y ((abe hy).resolve_left aj)
   have hpn:=abz B.st (mi B l) ([],[]);have Z8:=ae Ru;obtain⟨A3,c3,e3⟩:=E.b.slice;have Sb:=E.a;have oq:∀k,(Value.slice A3 (mi B l).length c3).ownBlock=some k->k<wr.heap.size:=λk hk=>(E.b.blk k (e3▸hk)).2
   generalize s9 B l=rB at *;generalize mi B l=mB at *;have JH:(nV B.st mB).1.length<=16:=ais;have Nn:(nV B.st mB).2.length<=16:=ais;generalize nV B.st mB=PV at *;obtain⟨C,PV2⟩:=PV;simp only at C2 Z7 Z8 JH Nn;clear zy Ru hpn HME uq iZ ba E;have q1:=q wr O;subst e3;obtain⟨A1,c1',rfl⟩:=Sb.slice;generalize wr=w5 at *;go_wp2_with fail
   refine C2.aa.mono ?_;rintro e w6⟨v1,v2,rfl,X,k6⟩;clear C2 q1;have sM:=Sb.st k6;have J:=Sb.blk;have ou:=O.size;have aO:=X.a.blk;have hb2:=X.b.blk;have lu:i7 (λk=>(k<Nl∨(Value.slice A3 mB.length c3).ownBlock=some k)∨(Value.slice A1 rB.length c1').ownBlock=some k) bI PV2 v2 w6:=X.b.aj0.GQ (λ_ _=>.inl trivial) λk hk t=>by
    have I:=(hb2 k hk).1;rcases t with (t|t)|t
    ·have:=Yq.aa;omega
    ·have:=sM.slice;exact absurd I (by have:=oq k t;omega)
    ·have:=(J k t).2;omega
   have AK:=O.tr k6;obtain⟨Av1,cv1,e1⟩:=X.a.slice;have ak2:=X.a;clear X Sb;go_wp2_with (at_builtin;refine Tx rfl _ _ 32 rfl _ 3 24 uJ rfl rfl sM _ rfl lu ?p2 ?p3 ?_)
   case p2=>omega
   case p3=>exact AK.size
   intro v9 w9 bG bJ dc bo;have G9:=AK.trans bo;have s:=sN.start H.aa G9 bG.aj0;have u19:ah (λk=>(Value.slice A1 rB.length c1').ownBlock=some k) w6 w9:=ah.fM bJ λk e=>e
   have qI:=ak2.to (Y':=λk=>k<w5.heap.size∨w6.heap.size<=k) u19 (λk hk=>.inl (J k hk).2) (λk I h2=>by have:=(aO k I).1;have:=(J k h2).2;omega) (λk I hk=>hk.elim (λh=>.inl (.inl h)) λh=>af);have HV1:=ae (qI.GQ (N:=λk=>bn ⟨g,gl,gd,gr,gt,vd,vr,vp,vh,.slice Al B.st.list.length cl,.slice Aq B.st.prom.length cq,.slice Ab B.st.ab.length cb,vt,.slice Ar B.refused.length cr,vw,kr⟩ k∨v9.ownBlock=some k) (λk hk=>.inl (by
    rcases hk with hk|hk
    ·have:=s.low k hk;exact .inl af
    ·rcases dc with e|e
     ·exact .inl ((J k (e▸hk)).2)
     ·rw[e]at hk;injection hk with hk;exact .inr af)) λk I hk=>by
    have:=aO k I;rcases hk with hk|hk
    ·have:=s.low k hk;omega
    ·rcases dc with e|e
     ·have:=(J k (e▸hk)).2;omega
     ·rw[e]at hk;injection hk with hk;omega)
   subst e1;obtain⟨G,rL⟩:∃G,Hid (G=rB++PV2):=⟨_,ae rfl⟩;rw[<- rL.aa]at bG s;have hl9:G.length<=32:=by rw[rL.aa];simp;omega
   have azn:Hid (rX B l=C.foldl iD (B,G)):=ae (by rw[Z7.aa,rL.aa]);obtain⟨A9,c9,rfl⟩:=bG.slice;obtain⟨P0,Jr⟩:∃P0:cV,Hid (P0=⟨g,gl,gd,gr,gt,vd,vr,vp,vh,.slice Al B.st.list.length cl,.slice Aq B.st.prom.length cq,.slice Ab B.st.ab.length cb,vt,.slice Ar B.refused.length cr,vw,kr⟩):=⟨_,ae rfl⟩;rw[<- Jr.aa]at s HV1;have Ry:Hid (P0.g=g):=ae (by rw[Jr.aa]);clear qI ak2 sM u19 bG bJ dc bo J oq aO hb2 lu Z7 rL H ou k6 O AK Q1 CP q HLA;go_wp2_with fail
   go_loopw [5,14,58] (fun o _ i W=>∃(j:Nat) (p2:cV),j<=C.length/\i=.int .i64 (j:Int)/\sN M P0 w w9 (.slice A9 G.length c9) p2 ((C.take j).foldl iD (B,G)).1 ((C.take j).foldl iD (B,G)).2 o W) (fun _ _ i _=>C.length-(intOf i).toNat)
   case atStart=>exact⟨0,P0,af,rfl,by simpa using s⟩
   case round =>
    clear s;obtain⟨j,p2,hj,rfl,s⟩:=hrel;have iN:p2.g=g:=(yA s.key).trans Ry.aa;have HP:=ae s;by_cases hlt:j<C.length
    ·have ba:(j:Int)<(C.length:Int):=af;obtain⟨b1,o1,c1,cs1,Q,dK,dH,hF,hcell⟩:=HV1.aa.at j hlt au;injection Q with Q _ gX;subst Q gX;have HF:=ae (fold_succ iD C (B,G) j hlt);have hm:=Z8.aa _ (bW hlt);have tH:=ab9 (p:=(B,G)) HG.aa (l:=C.take j) λx t=>(Z8.aa x (lE t)).2
     generalize C[j]=x at *;generalize (C.take j).foldl iD (B,G)=P at *;obtain⟨F,gD⟩:∃F,Hid (F=(C.take (j+1)).foldl iD (B,G)):=⟨_,ae rfl⟩;replace HF:Hid (F=iD P x):=ae (gD.aa.trans HF.aa);obtain⟨T,Y⟩:=P;simp only at s HP tH;have hrl:Y.length<=100:=by have:=tH.2;simp at this;omega
     have nt:=hcell wr s.u9;obtain⟨vf,L,rfl,hf,he⟩:=hF wr s.u9;have q9:∀i,i<8->wr.cell? ⟨b1,o1+j*8+i,none⟩=(aA x vf L)[i]?:=λi hi=>(nt i hi).trans Array.getElem?_toList
     have q0:wr.cell? ⟨b1,o1+j*8,none⟩=some (.int .i64 x.kind):=q9 0 au;have t:=ai.new wr 102 (aA x vf L);have k3:K wr (wr.alloc (.cells (aA x vf L) 102)):=(K.rf wr).al _;have yD:∀W,K wr W->qh (s8 x) (.agg (eH (s8 x) vf L)) W:=λW k=>⟨_,_,rfl,dB _ _ _ _ hf k,aW he k⟩
     obtain⟨Af,cf,rfl⟩:=cB hf;obtain⟨Ae,ce,rfl⟩:=az he;have Cg:=ae yD;obtain⟨Ao,co,rfl⟩:=s.own.slice;clear hcell nt hF dH dK hf he yD;go_upto_region 16 with (fail);have Z9:=s.st k3;generalize wr.alloc _=w3 at *;have Mz:¬bn p2 wr.heap.size:=λh=>by have:=s.br.low _ (.inr h);omega
     generalize sJ:wr.heap.size=gx at *;clear q9 q0 s sJ;have q8:=t.cell;have C3:=ae (JW Z9.br tH.1 (s8 x) _ (Cg.aa w3 k3) ⟨PI,DD,hm.2,PI,DD,DD⟩ (tK hm.1));simp only[iN]at C3;have nP:Hid ((dt T (s8 x)).2=false->(dt T (s8 x)).1=T):=ae acW;have Np:Hid (F=if (dt T (s8 x)).2 then ((dt T (s8 x)).1,Y)else (T,Y++[ax x])):=ae HF.aa;clear iN tH HF;generalize dt T (s8 x)=NB at *;obtain⟨N1,N2⟩:=NB;simp only at C3 nP Np;go_wp2_with fail
     refine C3.aa.mono ?_;rintro e D⟨rfl,hN⟩;obtain⟨p3,hP4⟩:=Z9.note hN;obtain⟨_,_,uN,_⟩:=hN;have bQ:=t.bT uN Mz;clear C3 q8 t uN Z9 Mz;cases N2
     ·have JF:=nP.aa rfl;subst JF;have HQ:Hid (F=(N1,Y++[ax x])):=ae (by rw[Np.aa];rfl);have Nj:=bQ.cell;have hr:=fE.new (S:=bI) (e:=46) (x:=ax x) (v:=.agg (bZ (ax x))) (w:=D) (N:=λk=>True∨(Value.slice Ao Y.length co).ownBlock=some k) (λW u=>rfl) 0 (fw _);have U:K D (D.alloc (.cells (bZ (ax x)) 46)):=(K.rf D).al _;have Sc:=hP4.st U;have b9:=Sc.own;have ou:=Sc.uw.size;clear hP4 Np nP;go_wp2_with (at_builtin;refine jK rfl _ _ 32 rfl _ 3 24 uJ rfl rfl b9 _ rfl (ax x) ?p1 ?p2 ?p3 ?_)
      case p1=>exact hr.less λk _=>.inl trivial
      case p2=>omega
      case p3=>simpa using ou
      intro v9 iB bG bJ dc bo;have AA:=Sc.push (bG.less λ_ _=>trivial) bJ pO;clear hr b9 Sc bG bJ dc bo Nj bQ;go_wp2;go_roundw
      case rel=>exact⟨j+1,p3,af,bO,by rw[<- gD.aa,HQ.aa];exact AA⟩
      case measure=>simp[intOf];omega
     ·have HQ:Hid (F=(N1,Y)):=ae (by rw[Np.aa];rfl);clear Np nP bQ;go_wp2;go_roundw
      case rel=>exact⟨j+1,p3,af,bO,by rw[<- gD.aa,HQ.aa];exact hP4⟩
      case measure=>simp[intOf];omega
    ·have ba:¬(j:Int)<(C.length:Int):=af;obtain rfl:j=C.length:=af;rw[mC,<- azn.aa]at s;have sI:=s.fin;rw[Ry.aa]at sI;obtain⟨Ao,co,e8⟩:=s.own.slice;have qg:=s.br.blk.cell;have zg:=s.br.blk.frozen;rw[iN]at qg zg;subst e8;have RD:=ae sI;rw[Jr.aa]at RD;clear s HP sI iN;go_wp2;go_end0;refine⟨rfl,?_⟩;rw[HR.aa];exact RD.aa
