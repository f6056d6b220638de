/-
  The walk of broker's Status (layer 20). Conditions: none.
-/
import Derived.Test.YtfndfpdhlbmboaaGreatMd19
import Derived.Test.YtfndfpdhlbmboaaGreatMdz
set_option maxRecDepth 100000
set_option linter.constructorNameAsVariable false
set_option maxHeartbeats 16000000
set_option linter.unusedVariables false
set_option linter.unusedSimpArgs false
namespace Go.Proofs.YtfndfpdhlbmboaaGreat
open Go Go.RowKit _root_.Go.Proofs.Tryz
def findF(t:eI)(is:Bool)(_:Nat)(xs:Array Value)(c:Value)(_:World):Prop:=∃vf j,xs=gW t vf j/\c=.bool is/\(∃A k,vf=.slice A t.e.f.length k)/\∃A k,j=.slice A t.e.es.length k
abbrev akB:Array Value:=gW wu (.slice none 0 0) (.slice none 0 0)
theorem apq{M p B w}(h:bB M p B w)(hG:bE B) a :
 Calls prog 53 #[.pointer (some ⟨p.g,0,none⟩),cN a] w λe w'=>e=.returned (.int .i64 (FZ B a))/\K w w':=by
 have HR:Hid (FZ B a=if bV B.st.list a then 3 else if ue B a then 4 else if (tB B.aC a).2 then (if (tB B.aC a).1.asked then 2 else 1)else 0):=ae rfl
 have H:=ae h
 have HG:=ae hG
 have hb:=ai.new w 26 #[.int .i64 a.1,.int .u64 a.2.1,.int .u64 a.2.2]
 have U:=hb.aU
 have D:=ae λW (k:K w W)=>aqI B.aC a p.vt W (h.bK.at k).aC hG.tx.small ahU
 have A:=ae λW (k:K w W)=>DI B.st a (.agg (cP B.st p.vl p.vq p.va)) W ⟨_,_,_,rfl,(h.bK.at k).list,(h.bK.at k).prom,(h.bK.at k).ab⟩ B8
 have hs1:=av h.bK.now.list
 have fG:=av h.bK.now.prom
 have fc:=av h.bK.now.ab
 have hs4:=av h.bK.now.aC
 have q:=h.q
 obtain⟨g,gl,gd,gr,gt,vd,vr,vp,vh,vl,vq,va,vt,vf,vw,kr⟩:=p
 simp only at q D A hs1 fG fc hs4
 obtain⟨Al,cl,rfl⟩:=hs1
 obtain⟨Ap,cp,rfl⟩:=fG
 obtain⟨Aa,ca,rfl⟩:=fc
 obtain⟨At,ct,rfl⟩:=hs4
 obtain⟨X,ng⟩:∃X,X=tB B.aC a:=⟨_,rfl⟩
 obtain⟨Q,hhl⟩:∃Q,Q=bV B.st.list a:=⟨_,rfl⟩
 obtain⟨L,N⟩:∃L,L=ue B a:=⟨_,rfl⟩
 simp only[<- ng,<- hhl,<- N]at D A HR
 have HA:=ae N
 obtain⟨tx,is⟩:=X
 clear h hG ng hhl N
 generalize FZ B a=R at *
 go_enter func53,ntmps53
 go_upto_region 3 with (fail)
 generalize w.alloc _=w1 at *
 generalize w.heap.size=ga at hb⊢
 have E:=hb.cells
 have S:=λW (k:K w1 W)=>q W (U.tr k)
 have C3:=ae λW (k:K w1 W)=>D.aa W (U.tr k)
 have HB:=ae hb
 clear hb D q
 refine abQ 128 akB (λi=>[Value.pointer (some ⟨g,0,none⟩),.pointer (some ⟨g,0,none⟩),.pointer (some ⟨g,8,none⟩),.slice At B.aC.length ct,cN a].getD i undef) (findF tx is)
  [([],[]),([0],[(10,0)]),([1],[(11,1)]),([2],[(12,2)]),([],[]),([3,4],[(13,3),(14,4)]),([5],[(15,5)]),([6],[(9,6)]),([6],[(9,6)]),([],[]),([7,9],[(5,9),(16,7)]),([8],[(17,8)])] 106 #[.slice At B.aC.length ct,cN a] 37 rfl cV cV cV rfl rfl ?gd ?pre ?call ?cc ?h6 ?h7 ?h8 ?h9 ?pZ ?wL ?hk ?hlow ?_
 case gd=>simp
 case pre => intro i hi V W kW hp;have:i=0∨i=1∨i=2∨i=3∨i=4:=af;rcases this with rfl|rfl|rfl|rfl|rfl <;> simp at hp <;> simp[mf,aF,List.lookup,hp,execOp,aG,S,E,kW,go_sem]
 case call=>intro V W kW h3 h4;simp at h3 h4;simp[mf,aF,List.lookup,h3,h4,execOp,aG,go_sem]
 case cc => intro W kW;refine (C3.aa W kW).mono ?_;rintro e w3⟨u,rfl,⟨vf,ve,rfl,hf,he⟩,k3⟩;obtain⟨T,G,rfl⟩:=cA hf;obtain⟨F,Y,rfl⟩:=av he;exact⟨_,_,rfl,⟨_,_,rfl,rfl,⟨_,_,rfl⟩,⟨_,_,rfl⟩⟩,k3⟩
 case h6=>intro V W v j;simp[mf,aF,List.lookup,j,execOp,aG,go_sem]
 case h7=>intro V W xs c j;simp[mf,aF,List.lookup,j,execOp,aG,go_sem]
 case h8=>intro V W xs c j;simp[mf,aF,List.lookup,j,execOp,aG,go_sem]
 case h9=>intro V W;simp[mf,execOp,aG,go_sem];rfl
 case pZ => rintro V W b lo xs c W0 I Z hb⟨vf,ve,rfl,-,⟨T,G,rfl⟩,F,Y,rfl⟩;show ∃W',(execOp (aF [(5,9),(16,7)] _ V) (aG (.store 128 (.tmp 5) (.tmp 16)) _)).run prog W=_/\_/\_;exact ac5 (.tmp 5) (.tmp 16) 128 _ 128 b 0 akB (gW tx (.slice T tx.e.f.length G) (.slice F tx.e.es.length Y)) fP fP hb cV aj (by simp[Value.oneCell'])
 case wL=>intro V W c j;simp[mf,aF,List.lookup,j,execOp,aG,go_sem]
 case hk=>exact λlo xs c W W' h k=>h
 case hlow=>exact λlo xs c W W' b h hb u=>h
 intro V W b xs c lo kW hcs e5 e6 Z e8 I p9 bT hbk hlo Dk
 obtain⟨vf,ve,rfl,rfl,⟨T,G,rfl⟩,F,Y,rfl⟩:=Dk
 simp only[fZ,Act.put,sC,rI,rH,e5,e6,Z,e8,I,p9]
 have t:=U.tr kW
 have q2:=λW' (k:K W W')=>S W' (kW.tr k)
 have sX:=λW' (k:K W W')=>E W' (kW.tr k)
 have qt:=hbk.cells
 have C4:=ae λW' (k:K W W')=>A.aa W' (t.tr k)
 have C:=ae λW' (k:K W W')=>Uc (H.aa.st (t.tr k)) HG.aa a
 simp only[<- HA.aa]at C
 clear hcs e5 e6 Z e8 I p9 S E A C3 hbk HA H HG
 go_upto_region 4 with (fail)
 cases Q
 rotate_left
 ·have HF:Hid (R=3):=ae fW;have qs:=And.intro q2 sX;refine dV 7 ?_;iterate 5 refine au.i ?_
  refine au.is (.bool true) (λV W kW hp=>?_) ?_
  ·(try simp only[cF,aO,aR,bW,bY,aJ]at hp)
   exact ahV
  refine au.i ?_;clear qs;intro V W kW hA;simp only[aO,aR,cC,aJ,Nat.reduceAdd]at hA;refine aH.h ?_;have kF:=t.tr kW;clear hA q2 sX C qt HR;go_wp2;exact Cd
 have qs:=And.intro q2 sX
 refine dV 7 ?_
 iterate 5 refine au.i ?_
 refine au.is (.bool false) (λV W kW hp=>?_) ?_
 ·(try simp only[cF,aO,aR,bW,bY,aJ]at hp)
  exact ahV
 refine au.i ?_
 clear qs
 intro V W kW hA
 simp only[aO,aR,cC,aJ,Nat.reduceAdd]at hA
 refine aH.h ?_
 have kF:=t.tr kW
 have C6:=ae (C.aa W kW)
 have qa3:=λi=>sX W kW i
 have O:=ae λW' (k:K W W')=>qt W' (kW.tr k)
 clear hA q2 sX C qt C4 t
 go_wp2_with fail
 refine C6.aa.mono ?_
 rintro e J⟨rfl,k9⟩
 have kG:=kF.tr k9
 clear C6
 cases L
 rotate_left
 ·have HF:Hid (R=4):=ae fW;clear HR;exact QA
 have y:=O.aa J k9
 have HE:Hid (R=if is then (if tx.asked then 2 else 1)else 0):=ae fW
 clear HR qa3
 cases CQ:is
 ·have HF:Hid (R=0):=ae (by rw[HE.aa,CQ];rfl);exact QA
 cases YP:tx.asked
 ·have HF:Hid (R=1):=ae ahW;have q8:J.cell? ⟨b,8,none⟩=some (.bool false):=(y 8).trans (by simp[gW,YP]);clear y O;exact QA
 ·have HF:Hid (R=2):=ae ahW;have q8:J.cell? ⟨b,8,none⟩=some (.bool true):=(y 8).trans (by simp[gW,YP]);clear y O;exact QA
theorem aug B o x(h:o.length<=16):(km B o x).length<=16:=by
 grind [km]
theorem Pt B:∀(l o:List aK),o.length<=16->(l.foldl (km B) o).length<=16:=by
 intro l
 induction l with
 | nil=>intro o h;exact h
 | cons x l j=>intro o h;exact j _ (aug B o x h)
theorem Q4 x cs W(h:aV.rel x cs W):cs[0]?≠some (.bool true):=by obtain⟨vf,j,rfl,-⟩:=h;simp
theorem ab9{MB Y p B w}(h:bB MB p B w)(hG:bE B) base t N o l D vl9
 (hb:ai w t 43 #[D]) (ht:ai w N 90 #[.pointer (some ⟨p.g,0,none⟩)]) (F:aB Y base 126 aV o D w) (hl:jl (λk=>Y k∨D.ownBlock=some k) aV l vl9 w)
 (hYb:∀k,Y k->k<base) (Hm:Y t) (hMo:MB t) (hMv:∀k,D.ownBlock=some k->MB k) (hXo:¬bw p t) (hXb:∀k,bw p k->k<base) (SV:N<base) (Kc:N≠t) (hbase:base<=w.heap.size) (hlo:o.length<=16) (xe:l.length<=1000000) :
 Calls prog 156 #[vl9,.pointer (some ⟨t,0,none⟩),.pointer (some ⟨N,0,none⟩)] w λe w'=>e=.returned (.tuple #[])/\Mq Y base 43 126 aV (l.foldl (km B) o) D t w w':=by
 have H:=ae h
 have HG:=ae hG
 have HL:=ae hl
 have HX:=ae hMv
 have HXb:=ae hXb
 have bT:=F.blk
 have aE5:=hYb t Hm
 obtain⟨A9,c9,rfl⟩:=hl.slice
 obtain⟨R,HR⟩:∃R,Hid (R=l.foldl (km B) o):=⟨_,ae rfl⟩
 rw[<- HR.aa]
 have HJ:=ae λ(j:Nat) (hj:j<l.length)=>fold_succ (km B) l o j hj
 have HN:=ae λ(j:Nat)=>Pt B (l.take j) o hlo
 have HT:=ae ht
 have uu:ag (λk=>k=t∨D.ownBlock=some k) w w:=ag.rf _ _
 clear h hG hl hMv ht hXb
 go_enter func156,ntmps156
 go_wp2_with fail
 go_loopw [5,6,9] (fun _ _ i W=>∃(j:Nat) (v':Value),j<=l.length/\i=.int .i64 j/\ai W t 43 #[v']/\aB Y base 126 aV ((l.take j).foldl (km B) o) v' W/\(∀k,v'.ownBlock=some k->D.ownBlock=some k∨w.heap.size<=k)/\ag (fun k=>k=t∨D.ownBlock=some k) w W) (fun _ _ i _=>l.length-(intOf i).toNat)
 case atStart=>exact⟨0,D,af,rfl,hb,fP,λk hk=>.inl hk,uu⟩
 case round =>
  clear hb F uu;obtain⟨j,v',hj,rfl,hb,F,hat,u⟩:=hrel;have nt:=u.size;by_cases hlt:j<l.length
  ·have aP:(j:Int)<l.length:=af;obtain⟨b1,o1,c1,cs1,e9,dq,hcl,Z,hcell⟩:=HL.aa.at j hlt ax;injection e9 with e9 _ fO;subst e9 fO;have L:=ae (HJ.aa j hlt);have yh:=HN.aa j;generalize l[j]=x at *;generalize (l.take j).foldl (km B) o=A at *;obtain⟨I,ic⟩:∃I,Hid (I=(l.take (j+1)).foldl (km B) o):=⟨_,ae rfl⟩;replace L:Hid (I=km B A x):=ae (ic.aa.trans L.aa);have Mv:cs1.length=8:=hcl;have HFr:Hid (Fx (λk=>Y k∨v'.ownBlock=some k) (λW=>aV.rel x cs1 W) wr):=ae (Z.to u (λk hk=>hk.elim (λe=>e ▸ .inl Hm) .inr) λk hk C=>by
    rcases C with C|C
    ·exact .inl C
    ·rcases hat k C with h|h
     ·exact .inr h
     ·omega)
   have pG:=hcell wr (u.more λk hk=>hk.elim (λe=>e ▸ .inl Hm) .inr);obtain⟨vf,ve,rfl,hf,he⟩:=Z.now;have q9:∀i,i<8->wr.cell? ⟨b1,o1+j*8+i,none⟩=(aE x vf ve)[i]?:=λi hi=>(pG i hi).trans Array.getElem?_toList
   have q0:wr.cell? ⟨b1,o1+j*8,none⟩=some (.int .i64 x.kind):=q9 0 ax;have C:=ai.new wr 126 (aE x vf ve);have M:=C.aU;obtain⟨Af,cf,rfl⟩:=cA hf;obtain⟨Ae,ce,rfl⟩:=av he;obtain⟨Av,U,rfl⟩:=F.slice;have hBr:=H.aa.far u (λk hk=>hk.elim (λe=>e▸hMo) (HX.aa k)) (λk hk C=>by
    rcases hk with rfl|hk
    ·exact hXo C
    ·have:=HXb.aa k C;have:=(bT k hk).1;omega) (λk _ hk=>hk) H.aa.sub (λk hk=>bz (H.aa.low k hk) nt)
   have htr:=HT.aa.aW u (by
    rintro (rfl|hk)
    ·exact Kc rfl
    ·have:=(bT _ hk).1;omega)
   have HB:=ae hBr;clear hf he Z hcell pG hcl Mv dq hBr;go_upto_region 3 with (fail);generalize wr.alloc _=w3 at *;obtain⟨O,lQ⟩:∃O,Hid (O=wr.heap.size):=⟨_,ae rfl⟩;rw[<- lQ.aa]at C⊢;clear q9 q0;have bG:=hb.ay M;have E2:=htr.ay M;have bH:=F.st M;have C1:=ae (O8 A _ (ig (ar x)) 157 #[.pointer (some ⟨O,0,none⟩)] w3 bH.aq af (λ_ _=>cV) (λW k y _ u hu=>aso y x u _ _ O W hu (C.ay k)));have BC:Hid (A.any (ig (ar x))=bV A (ar x)):=ae rfl;rw[BC.aa]at C1;have q1:=bG.cell;go_wp2_with fail
   apply cG C1.aa M;intro w4 J vA;have hb4:=bG.ay J;have ht4:=E2.ay J;have b5:=C.ay J;have cI:=bH.st J;have E:=ae (HB.aa.st vA);have HF4:=ae (HFr.aa.k vA);clear C1 BC q1 bG E2 C bH HB HFr hb F htr;have C2:=ae λW (k:K w4 W)=>DI B.st (ar x) (.agg (cP B.st p.vl p.vq p.va)) W ⟨_,_,_,rfl,(E.aa.bK.at k).list,(E.aa.bK.at k).prom,(E.aa.bK.at k).ab⟩ (by have:=HG.aa.dk.len;omega)
   have C3:=ae λW (k:K w4 W)=>Uc (E.aa.st k) HG.aa (ar x)
   have HP:Hid (I=if bV A (ar x)||bV B.st.list (ar x)||ue B (ar x)||decide (16<=A.length)then A else A++[x]):=ae L.aa;generalize bV A (ar x)=c1 at *;generalize bV B.st.list (ar x)=c2 at *;generalize ue B (ar x)=c3 at *;have hs1:=av E.aa.bK.now.list;have fG:=av E.aa.bK.now.prom;have fc:=av E.aa.bK.now.ab;have q:=E.aa.q;have qo:=hb4.cells;have qt:=ht4.cells;have qx:=b5.cells;obtain⟨g,gl,gd,gr,gt,vd,vr,vp,vh,vl,vq,va,vt,kM,vw,kr⟩:=p;simp only at q C2 C3 hs1 fG fc qt;obtain⟨Al,cl,rfl⟩:=hs1;obtain⟨Aq,cq,rfl⟩:=fG;obtain⟨Aa,ca,rfl⟩:=fc;clear L;have hc:(I=A/\(c1=true∨c1=false/\c2=true∨(c1=false/\c2=false)/\c3=true∨((c1=false/\c2=false)/\c3=false)/\(16:Int)<=(A.length:Int)))∨I=A++[x]/\((c1=false/\c2=false)/\c3=false)/\¬(16:Int)<=(A.length:Int):=by rw[HP.aa];have:=@Int.ofNat_le 16 A.length;by_cases h:16<=A.length <;> cases c1 <;> cases c2 <;> cases c3 <;> simp[h] <;> omega
   have qs:=And.intro q (And.intro qo (And.intro qt (And.intro qx (show ar x=(x.br,x.life,x.b6)from rfl))));rcases hc with ⟨HQ,rfl|⟨rfl,rfl⟩|⟨⟨rfl,rfl⟩,rfl⟩|⟨⟨⟨rfl,rfl⟩,rfl⟩,aAg⟩⟩|⟨HQ,⟨⟨rfl,rfl⟩,rfl⟩,aAg⟩;all_goals
    replace HQ:=ae HQ
    go_upto_region 4 with (fail)
    refine dV 21 ?_
    iterate 21 first|refine au.i ?_|refine au.v C2.aa ?_|refine au.v C3.aa ?_
    clear qs
    intro V W kW hA
    simp only[aO,aR,cC,aJ,Nat.reduceAdd]at hA
    refine aH.h ?_
    have j8:=hb4.ay kW
    have sW:=cI.st kW
    have uW:=u.tr (ag.aT (vA.tr kW) _)
    clear hA q qo qt qx hb4 cI C2 C3
   ·exact QB
   ·exact QB
   ·exact QB
   ·exact QB
   have Bs:=b5.ay kW;have HFW:=HF4.aa.k kW;clear b5;have q1:=j8.cell;have q2:=Bs.cell;have aAh:=sW.blk;have Q:=K.new W (.cells (aE x (.slice Af x.f.length cf) (.slice Ae x.es.length ce)) 126);have Fh:=sW.st Q;have s8:=j8.ay Q;have hr:=eD.new (S:=aV) (e:=126) (v:=.agg (aE x (.slice Af x.f.length cf) (.slice Ae x.es.length ce))) HFW 0 (eV _);go_wp2_with (at_builtin;refine jN rfl _ _ 43 rfl _ 8 96 pw rfl rfl Fh _ rfl x ?p1 ?p2 ?p3 ?_)
   case p1=>exact hr.less λk hk=>hk
   case p2=>omega
   case p3=>exact bn hbase (bn uW.size Q.size)
   intro G w9 bq bC cY aY;rw[<- HQ.aa]at bq;have T:=s8.grown bC (by intro e;have:=(aAh t e.symm).1;omega);have q9:=T.cell;have z9:=T.frozen;have HU:=ae ((uW.tr (ag.aT Q _)).gF (X:=λk=>k=t∨D.ownBlock=some k) (Y:=λk=>k=t∨(Value.slice Av A.length U).ownBlock=some k) ((ag.eU (X:=λk=>k=t∨(Value.slice Av A.length U).ownBlock=some k) bC λk e=>.inr e).tr (ag.bM (X:=λk=>k=t∨(Value.slice Av A.length U).ownBlock=some k) (.inl rfl) 0 G)) λk hk h=>by
    rcases h with h|h
    ·exact .inl h
    ·rcases hat k h with h|h
     ·exact .inr h
     ·omega)
   have ZM:Hid (ai (w9.setCell ⟨t,0,none⟩ G) t 43 #[G]):=ae (T.aQ 0 G);have zB:=ae (bq.to (X:=λk=>k=t) (ag.bM (X:=λk=>k=t) rfl 0 G) (λk hk=>Qz) (λk hk e=>WZ) λk _ hk=>.inl hk);have p8:Hid (∀k,G.ownBlock=some k->D.ownBlock=some k∨w.heap.size<=k):=ae λk hk=>by
    rcases cY with h|h
    ·exact hat k (h▸hk)
    ·rw[h]at hk;injection hk with hk;have:=uW.size;exact .inr af
   obtain⟨A9',c9',rfl⟩:=bq.slice;clear bq bC cY aY T s8 Fh hr q1 q2 j8 sW Bs;go_wp2;go_roundw
   case rel=>exact⟨j+1,_,af,bI,ZM.aa,by rw[<- ic.aa];exact zB.aa,p8.aa,HU.aa⟩
   case measure=>simp[intOf];omega
  ·have aP:¬(j:Int)<l.length:=af;obtain rfl:j=l.length:=af;rw[nC,<- HR.aa]at F;go_wp2;go_end0;exact⟨rfl,v',hb,F,hat,u⟩
theorem adU{B y}:∀ {l o:List aK},y∈l.foldl (km B) o->y∈o∨y∈l:=by
 intro l
 induction l with
 | nil=>intro o h;exact .inl h
 | cons x l j =>
  grind [km]
theorem auh{B y}:∀ {l:List fH} {o:List aK},y∈l.foldl (λo k=>k.asks.foldl (km B) o) o->y∈o∨∃m∈l,y∈m.asks:=by
 intro l
 induction l with
 | nil=>intro o h;exact .inl h
 | cons x l j =>
  intro o h;rcases j h with h|⟨m,hm,h⟩
  ·grind [adU]
  ·grind
theorem adV B:∀(l:List fH) (o:List aK),o.length<=16->(l.foldl (λo k=>k.asks.foldl (km B) o) o).length<=16:=by
 intro l
 induction l with
 | nil=>intro o h;exact h
 | cons x l j=>intro o h;exact j _ (Pt B _ _ h)
theorem adW B:(lU B).length<=16:=adV B _ _ (Pt B _ _ aj)
theorem bE.rep{B}(j:bE B) k:iX B k=uH∨ed (iX B k)=true/\pR (iX B k):=by
 unfold iX
 cases h:B.bO.find? λp=>decide (p.1=k)with
 | none=>exact .inl rfl
 | some x=>exact .inr (j.bO x (List.mem_of_find?_eq_some h))
theorem Vr{α f}{l:List α}(h:kY f l=true):l.length<=16/\∀x∈l,f x=true:=by
 grind [kY]
theorem bE.last{B}(C:bE B){m}(h:m∈dy B):(∀x∈m.asks,bJ x=true/\cE x)/\m.cU.length<=16/\m.asks.length<=16:=by
 obtain⟨k,-,rfl⟩:=List.mem_map.1 h;rcases C.rep k with e|⟨D,A⟩
 ·grind [uH]
 ·have j:=D;unfold ed at j;simp only[dC]at j;obtain⟨⟨⟨⟨⟨⟨-,y⟩,t⟩,-⟩,-⟩,-⟩,-⟩:=j;exact⟨λx u=>⟨(Vr t).2 x u,A.2.2.2.1 x u⟩,(Vr y).1,(Vr t).1⟩
theorem bE.asks{B}(j:bE B){x}(h:x∈lU B):bJ x=true/\cE x:=by
 rcases auh h with h|⟨m,hm,h⟩
 ·rcases adU h with h|h
  ·simp at h
  ·obtain⟨t,u,rfl⟩:=List.mem_map.1 (om h);have:=j.tx.each t (List.mem_filter.1 u).1;exact⟨this.1,this.2.1⟩
 ·exact (j.last hm).1 x h
theorem adX{B}(j:bE B):(dy B).length<=16:=by unfold dy;rw[List.length_map];exact bn (IC _ _) (sA j.tr).2
theorem ayD x cs W(h:yi.rel x cs W):cs[0]?≠some (.bool true):=by obtain⟨B,j,A,u,t,y,rfl,-⟩:=h;simp
theorem acF{M p B w}(h:bB M p B w)(hG:bE B) :
 Calls prog 93 #[.pointer (some ⟨p.g,0,none⟩)] w λe w'=>∃v',e=.returned v'/\Fx M (λW=>aq aV (lU B) v' W) w'/\K w w':=by
 have H:=ae h
 have HG:=ae hG
 have HM:=ae h.low
 have U:=ae h.sub
 have Ke:Hid (lU B=(dy B).foldl (λo k=>k.asks.foldl (km B) o) ((jb B.aC).foldl (km B) [])):=ae rfl
 have HJ:=ae λ(j:Nat) (hj:j<(dy B).length)=>fold_succ (λo (k:fH)=>k.asks.foldl (km B) o) (dy B) ((jb B.aC).foldl (km B) []) j hj
 have HN:=ae λ(j:Nat)=>adV B ((dy B).take j) _ (Pt B (jb B.aC) [] aj)
 have HLM:=ae λm hm=>hG.last (m:=m) hm
 have xe:=adX hG
 have hal:(jb B.aC).length<=4:=by unfold jb;simp;omega
 have C1:=ae λW (k:K w W)=>ar5 B.aC p.vt W (h.bK.at k).aC hG.tx.small ahU
 have hs4:=av h.bK.now.aC
 have q:=h.q
 have hz1:(w.alloc (.cells #[.pointer (some ⟨p.g,0,none⟩)] 90)).heap.size=w.heap.size+1:=aj
 have k1:=K.lW w (.cells #[.pointer (some ⟨p.g,0,none⟩)] 90) (.cells #[.slice none 0 0] 43)
 have SV:=(ai.new w 90 #[.pointer (some ⟨p.g,0,none⟩)]).alloc (.cells #[.slice none 0 0] 43)
 have N:=ai.new (w.alloc (.cells #[.pointer (some ⟨p.g,0,none⟩)] 90)) 43 #[.slice none 0 0]
 rw[hz1]at N
 have HPG:Hid (p.g=p.g):=ae rfl
 clear h hG hz1
 go_enter func93,ntmps93
 go_upto_region 2 with (fail)
 generalize World.alloc (World.alloc w _) _=w1 at *
 obtain⟨g,hg⟩:∃g,g=w.heap.size:=⟨_,rfl⟩
 rw[<- hg]at SV N⊢
 have O:=ae hg
 clear hg
 have hg1:=N.lt
 have q1:=q w1 k1
 have qt:=SV.cell
 obtain⟨At,ct,hAt⟩:=hs4
 simp only[hAt]at C1
 have HAt:=ae hAt
 clear hAt
 have q1t:w1.cell? ⟨p.g,8,none⟩=some (.slice At B.aC.length ct):=by rw[q1 8,<- HAt.aa];rfl
 clear q1 q HPG
 go_wp2_with fail
 apply rM (C1.aa w1 k1) k1
 intro F y cH k2 J
 have hz2:=k2.size
 have YQ:=SV.ay k2
 have aAi:=N.ay k2
 have ez:=O.aa
 have S:=λk hk=>HM.aa k (U.aa k hk)
 have EH:bB (λk=>M k∨k=g+1) p B y:=H.aa.far (X:=λ_=>False) (ag.aT J _) (λ_ h=>h.elim) (λ_ h=>h.elim) (λk hk t=>t.resolve_right af) (λk hk=>.inl (U.aa k hk)) (λk hk=>hk.elim (λh=>Xc) (λh=>af))
 have YR:=cH.tO.blk
 have ew:jl (λk=>(M k∨k=g+1)∨(Value.slice none 0 0).ownBlock=some k) aV (jb B.aC) F y:=cH.tO.Hi (λk hk=>.inl (by
  rcases hk with (hk|hk)|hk
  ·have:=HM.aa k hk;omega
  ·omega
  ·simp[Value.ownBlock]at hk)) (λk hk t=>by
   have:=(YR k hk).1;rcases t with (t|t)|t
   ·have:=HM.aa k t;omega
   ·omega
   ·simp[Value.ownBlock]at t)
 have C2:=ae (ab9 EH HG.aa y.heap.size (g+1) g [] (jb B.aC) (.slice none 0 0) F aAi YQ (aB.nil _ _ _ _ _) ew (λk hk=>hk.elim (λh=>Xc) (λh=>af)) (.inr rfl) (.inr rfl) (λk hk=>ahX) (λt=>by have:=S _ t;omega) (λk hk=>by have:=S k hk;omega) af af (aD _) aj af)
 have wX:=ae EH
 have Q:=ae S
 obtain⟨A2,c2,rfl⟩:=ew.slice
 clear EH YR ew cH C1 q1t qt S ez
 go_wp2_with fail
 apply aM C2.aa
 rintro A⟨v3,Js,bH,Jh,G⟩
 replace Jh:∀k,v3.ownBlock=some k->y.heap.size<=k:=λk hk=>by
  rcases Jh k hk with h|h
  ·simp[Value.ownBlock]at h
  ·exact h
 replace G:ag (λk=>k=g+1) y A:=G.more λk hk=>hk.elim id λh=>FY
 have ix:=G.size
 have akC:=HM.aa
 have pd:bB (λk=>M k∨k=g+1∨(y.heap.size<=k/\k<A.heap.size)) p B A:=wX.aa.far G (λk hk=>.inr hk) (λk hk t=>by have:=Q.aa k t;have:=O.aa;omega) (λk hk t=>by
  rcases t with h|h|h
  ·exact .inl h
  ·exact .inr h
  ·omega) (λk hk=>.inl (U.aa k hk)) (λk hk=>by
   rcases hk with h|h|h
   ·have:=akC k h;have:=J.size;omega
   ·omega
   ·omega)
 have akD:=YQ.aW G af
 have C3:=ae (Uy pd HG.aa)
 have q3:=akD.cell
 clear C2 pd akC
 go_wp2_with fail
 apply bS C3.aa
 rintro v4 D⟨E9,R⟩
 have Z:=Fx.fix E9 ax ayD
 have SY:=ae Z
 obtain⟨A4,c4,rfl⟩:=Z.slice
 have akE:=Js.ay R
 have cI:=bH.st R
 have u4:=G.tr (ag.aT R (λk=>k=g+1))
 have akF:=bH.blk
 have gM:=R.size
 have HZ:=ae (And.intro ix gM)
 clear C3 q3 Z E9 akD Js bH
 go_wp2_with fail
 have akG:∀k,v3.ownBlock=some k->(y.heap.size<=k/\k<A.heap.size)∨D.heap.size<=k:=λk hk=>.inl (akF k hk)
 have uu:ag (λk=>k=g+1∨(y.heap.size<=k/\k<A.heap.size)) D D:=ag.rf _ _
 clear akF Jh
 go_loopw [6,18] (fun _ i W=>∃(j:Nat) (v':Value),j<=(dy B).length/\i=.int .i64 j/\ai W (g+1) 43 #[v']/\aB (fun k=>M k∨k=g+1) y.heap.size 126 aV (((dy B).take j).foldl (fun o (k:fH)=>k.asks.foldl (km B) o) ((jb B.aC).foldl (km B) [])) v' W/\(∀k,v'.ownBlock=some k->(y.heap.size<=k/\k<A.heap.size)∨D.heap.size<=k)/\ag (fun k=>k=g+1∨(y.heap.size<=k/\k<A.heap.size)) D W/\ag (fun k=>k=g+1) y W) (fun _ i _=>(dy B).length-(intOf i).toNat)
 case atStart=>exact⟨0,v3,af,rfl,akE,by simpa using cI,akG,uu,u4⟩
 case round =>
  clear akE cI akG uu u4;obtain⟨j,v',hj,rfl,hb,I,T,u,u2⟩:=hrel;by_cases hlt:j<(dy B).length
  ·have aP:(j:Int)<((dy B).length:Int):=af;obtain⟨b1,o1,c1,cs1,e9,dq,hcl,Y,hcell⟩:=SY.aa.at j hlt ax;injection e9 with e9 _ fO;subst e9 fO;have L:=ae (HJ.aa j hlt);have yh:=HN.aa j;have hmm:=HLM.aa _ (bZ hlt);generalize (dy B)[j]=m at *;generalize ((dy B).take j).foldl (λo (k:fH)=>k.asks.foldl (km B) o) ((jb B.aC).foldl (km B) [])=oj at *;obtain⟨P',ic⟩:∃P',Hid (P'=((dy B).take (j+1)).foldl (λo (k:fH)=>k.asks.foldl (km B) o) ((jb B.aC).foldl (km B) [])):=⟨_,ae rfl⟩;replace L:Hid (P'=m.asks.foldl (km B) oj):=ae (ic.aa.trans L.aa);have pG:=hcell wr (u.more λk hk=>by
    rcases hk with h|h
    ·exact .inr (.inl h)
    ·exact .inr (.inr h))
   obtain⟨v1,F,v3',v4',v5,v6,rfl,g1,g2,g3,g4,g5,g6⟩:=Y.now;have zK:Fx (λk=>M k∨k=g+1∨(y.heap.size<=k/\k<A.heap.size)) (λW=>aq aV m.asks F W) D:=Y.mono λW h=>by obtain⟨x1,x2,x3,x4,x5,x6,e,h1,h2,-⟩:=h;simp at e;obtain⟨-,rfl,-⟩:=e;exact h2
   have rq:=Fx.fix zK ax Q4;have hHZ:=HZ.aa;have hzu:=u.size;have vC:Hid (jl (λk=>(M k∨k=g+1)∨v'.ownBlock=some k) aV m.asks F wr):=ae (rq.to u (λk hk=>by
    rcases hk with h|h
    ·exact .inr (.inl h)
    ·exact .inr (.inr h)) (λk hk t=>by
     rcases t with (h|h)|h
     ·exact .inl h
     ·exact .inr (.inl h)
     ·rcases T k h with h|h
      ·exact .inr (.inr h)
      ·omega) ax)
   have q9:∀i,i<8->wr.cell? ⟨b1,o1+j*8+i,none⟩=(lA m v1 F v3' v4' v5 v6)[i]?:=λi hi=>(pG i hi).trans Array.getElem?_toList
   have q0:wr.cell? ⟨b1,o1+j*8,none⟩=some (.int .i64 m.kind):=q9 0 ax;obtain⟨A1,c1,rfl⟩:=av g1;obtain⟨NI,NJ,rfl⟩:=av g2;obtain⟨A3,c3,rfl⟩:=av g3;obtain⟨A4,c4,rfl⟩:=av g4;obtain⟨A5,c5,rfl⟩:=av g5;obtain⟨A6,c6,rfl⟩:=av g6;have t:=ai.new wr 156 (lA m (.slice A1 m.cU.length c1) (.slice NI m.asks.length NJ) (.slice A3 m.entries.length c3) (.slice A4 m.fe.length c4) (.slice A5 m.dQ.length c5) (.slice A6 m.ends.length c6));have C:=t.aU;clear hcell pG Y zK rq hcl dq g1 g2 g3 g4 g5 g6;go_upto_region 7 with (fail);generalize wr.alloc _=w5 at *;clear q9 q0;have q8:=t.cell;have ez:=O.aa;have Gp:=J.size;have MI:=C.size;have E:=u2.tr (ag.aT C (λk=>k=g+1));have cK:=I.st C;have il:=hb.ay C;have ht5:=YQ.aW E af;have V:=cK.blk;have E4:bB (λk=>M k∨k=g+1∨v'.ownBlock=some k) p B w5:=wX.aa.far E (λk hk=>.inr hk) (λk hk t=>by have:=Q.aa k t;omega) (λk hk t=>by
    rcases t with h|h|h
    ·exact .inl h
    ·exact .inr h
    ·have:=(V k h).1;omega) (λk hk=>.inl (U.aa k hk)) (λk hk=>by
     rcases hk with h|h|h
     ·have:=HM.aa k h;have:=E.size;omega
     ·have:=E.size;omega
     ·exact (V k h).2)
   have C5:=ae (ab9 E4 HG.aa y.heap.size (g+1) g oj m.asks v' _ il ht5 cK (vC.aa.st C) (λk hk=>hk.elim (λh=>Xc) (λh=>af)) (.inr rfl) (.inr (.inl rfl)) (λk hk=>.inr (.inr hk)) (λt=>by have:=Q.aa _ t;omega) (λk hk=>by have:=Q.aa k hk;omega) af af (by have:=E.size;omega) yh (by have:=hmm.2.2;omega));rw[<- L.aa]at C5;clear E4 ez Gp MI hHZ hzu hb I cK il ht5;go_wp2_with fail
   apply aM C5.aa;rintro w6⟨v6',jH,lB,akH,u6⟩;have hHZ:=HZ.aa;have hzu:=u.size;have MI:=C.size;have aAj:∀k,v6'.ownBlock=some k->(y.heap.size<=k/\k<A.heap.size)∨D.heap.size<=k:=λk hk=>by
    rcases akH k hk with h|h
    ·exact T k h
    ·exact .inr af
   have u7:=(u.tr (ag.aT C _)).gF u6 λk hk h=>by
    rcases h with h|h
    ·exact .inl h
    ·rcases T k h with h|h
     ·exact .inr h
     ·omega
   have u8:=E.gF u6 λk hk h=>by
    rcases h with h|h
    ·exact h
    ·have:=(V k h).1;omega
   clear C5 q8 akH u6 hHZ hzu MI V t;go_wp2;go_roundw
   case rel=>exact⟨j+1,v6',af,bI,jH,by rw[<- ic.aa];exact lB,aAj,u7,u8⟩
   case measure=>simp[intOf];omega
  ·have aP:¬(j:Int)<((dy B).length:Int):=af;obtain rfl:j=(dy B).length:=af;rw[nC,<- Ke.aa]at I;have L:=ae ((I.less (Y':=M) λk hk=>.inl hk).fx λk hk=>by have:=HM.aa k hk;have:=J.size;omega);have kF:=u2.k J λk hk=>by have:=O.aa;omega
   have q9:=hb.cell;obtain⟨A9,c9,rfl⟩:=I.slice;clear I T u u2 hb;go_wp2;go_ret;exact⟨_,rfl,L.aa,kF⟩
theorem jI.settle{l}(h:jI l) a:jI (fX l a):=by
 unfold fX;split
 ·exact h
 ·exact h.erase _
structure nH(B B':aZ):Prop where
 me:B'.me=B.me
 par:B'.par=B.par
 ah:B'.ah=B.ah
 calls:B'.calls=B.calls
 bO:B'.bO=B.bO
 refused:B'.refused=B.refused
 told:B'.told=B.told
 waits:B'.waits=B.waits
 life:B'.st.life=B.st.life
theorem nH.rf B:nH B B:=⟨rfl,rfl,rfl,rfl,rfl,rfl,rfl,rfl,rfl⟩
theorem nH.tr{A B C}(h:nH A B)(k:nH B C):nH A C:=⟨k.me.trans h.me,k.par.trans h.par,k.ah.trans h.ah,k.calls.trans h.calls,k.bO.trans h.bO,k.refused.trans h.refused,k.told.trans h.told,k.waits.trans h.waits,k.life.trans h.life⟩
theorem ahY{s t r}(hk:r.kind≠1)(e:dZ s r=some t):t.life=s.life:=by
 grind [dZ,zo,xR,xS,xT,zq]
theorem FC{B r}(hk:r.kind≠1):nH B (dz B r).1:=by
 unfold dz;split
 ·split
  ·exact nH.rf B
  ·rename_i t j;exact⟨rfl,rfl,rfl,rfl,rfl,rfl,rfl,rfl,ahY hk j⟩
 ·exact nH.rf B
theorem Ix{B}(j:bE B){r}(A:jQ r):bE (dz B r).1:=by
 unfold dz;split
 ·rename_i u;simp only[dC]at u;split
  ·exact j
  ·rename_i t y;have C:=j.dk.next u.1 A u.2 y;exact⟨j.tr,j.me,j.hm,C,by
    show jI (if r.kind=2 then fX B.aC (ar r.e)else B.aC);split
    ·exact j.tx.settle _
    ·exact j.tx,j.calls,j.bO,j.told,j.fD,j.waits,j.y6⟩
 ·exact j
theorem PG{n x}(hn:n<18446744073709551616)(j:cE x):jQ (mX n x):=⟨Qt,hn,j,Qt,Aj,Aj⟩
theorem Vs{k a}(hk:cD k)(j:dW a):jQ (jF k a):=⟨hk,DZ,IH,j.1,j.2.1,j.2.2⟩
theorem adb{B}(hG:bE B){x}(j:cE x):bE (mU B x).1:=Ix hG (PG B8 j)
theorem ade B x:nH B (mU B x).1:=FC (by simp[mX])
theorem aq0{B}(j:bE B){a}(t:dW a):bE (nY B a).1:=by
 have h:=Ix j (Vs (k:=4) qA t);unfold nY;split
 ·exact⟨h.tr,h.me,h.hm,h.dk,h.tx.settle _,h.calls,h.bO,h.told,h.fD,h.waits,h.y6⟩
 ·exact j
theorem aq1 B a:nH B (nY B a).1:=by
 have h:=FC (B:=B) (r:=jF 4 a) DZ;unfold nY;split
 ·exact⟨h.me,h.par,h.ah,h.calls,h.bO,h.refused,h.told,h.waits,h.life⟩
 ·exact nH.rf B
section
variable {α β γ:Type} {S:ei α} {S2:ei β} {S3:ei γ} {lo:Nat} {e e2 e3:TypeId} {l l':List α} {l2:List β} {l3:List γ} {v v2 v3:Value} {w w':World}
structure wH(lo:Nat)(e:TypeId)(S:ei α)(l:List α)(v:Value)(e2:TypeId)(S2:ei β)(l2:List β)(v2:Value)(e3:TypeId)(S3:ei γ)(l3:List γ)(v3:Value)(w:World):Prop where
 a:aB (λk=>k<lo∨v2.ownBlock=some k∨v3.ownBlock=some k) lo e S l v w
 b:aB (λk=>k<lo∨v3.ownBlock=some k∨v.ownBlock=some k) lo e2 S2 l2 v2 w
 c:aB (λk=>k<lo∨v.ownBlock=some k∨v2.ownBlock=some k) lo e3 S3 l3 v3 w
 n12:∀k,v.ownBlock=some k->v2.ownBlock=some k->False
 n23:∀k,v2.ownBlock=some k->v3.ownBlock=some k->False
 n31:∀k,v3.ownBlock=some k->v.ownBlock=some k->False
theorem wH.Dn(h:wH lo e S l v e2 S2 l2 v2 e3 S3 l3 v3 w):wH lo e2 S2 l2 v2 e3 S3 l3 v3 e S l v w:=⟨h.b,h.c,h.a,h.n23,h.n31,h.n12⟩
theorem wH.st(h:wH lo e S l v e2 S2 l2 v2 e3 S3 l3 v3 w)(k:K w w'):wH lo e S l v e2 S2 l2 v2 e3 S3 l3 v3 w':=⟨h.a.st k,h.b.st k,h.c.st k,h.n12,h.n23,h.n31⟩
theorem wH.nil lo e(S:ei α) y(u:ei β) t(j:ei γ) w:wH lo e S [] (.slice none 0 0) y u [] (.slice none 0 0) t j [] (.slice none 0 0) w :=
 ⟨aB.nil _ _ _ _ _,aB.nil _ _ _ _ _,aB.nil _ _ _ _ _,λk h=>FY,λk h=>FY,λk h=>FY⟩
theorem wH.box(h:wH lo e S l v e2 S2 l2 v2 e3 S3 l3 v3 w){T t}(hb:Mq (λk=>k<lo∨v2.ownBlock=some k∨v3.ownBlock=some k) lo T e S l' v t w w')(D:t<lo) :
 ∃v',ai w' t T #[v']/\wH lo e S l' v' e2 S2 l2 v2 e3 S3 l3 v3 w'/\ag (λk=>k=t∨v.ownBlock=some k) w w':=by
 obtain⟨v',C,B,y,u⟩:=hb
 have E:=h.b.blk
 have F:=h.c.blk
 refine⟨v',C,⟨B,h.b.to u (λk hk=>?_) (λk j h6=>?_) (λk hk A=>?_),h.c.to u (λk hk=>?_) (λk j h6=>?_) (λk hk A=>?_),λk j h6=>?_,h.n23,λk j h6=>?_⟩,u⟩
 ·grind
 ·rcases h6 with rfl|h6
  ·grind
  ·exact h.n12 k h6 j
 ·grind
 ·grind
 ·rcases h6 with rfl|h6
  ·grind
  ·exact h.n31 k j h6
 ·grind
 ·rcases y k j with j|j
  ·exact h.n12 k j h6
  ·grind
 ·rcases y k h6 with h6|h6
  ·exact h.n31 k j h6
  ·grind
end
theorem adY kids a:jo kids a=0∨jo kids a=1∨jo kids a=2:=by
 grind [jo]
theorem azq W:(zeroValue 294).run prog W=.ok .nilFunc W:=by rfl
def Mw(lo A B y:Nat)(C os:List aK)(ns:List aS)(W:World):Prop :=
 ∃t j u,ai W A 43 #[t]/\ai W B 43 #[j]/\ai W y 44 #[u]/\wH lo 126 aV C t 126 aV os j 26 cd ns u W
theorem ap6 op kids vo vk w(ho:aq aV op vo w)(hk:aq yi kids vk w)(sc:∀x∈op,eJ x)(hlo:op.length<=1000000)(hlk:kids.length<=1000000)(hv:∀m∈kids,m.cU.length<=1000000) :
 Calls prog 141 #[vo,vk] w λe w'=>∃C B Z,e=.returned (.tuple #[C,B,Z])/\Fx (λk=>k<w.heap.size) (λW=>aq aV (Ev op kids) C W) w'/\Fx (λk=>k<w.heap.size) (λW=>aq cd (Dc op kids) B W) w'/\K w w':=by
 have HY:Hid (Ev op kids=op.filter λx=>decide (jo kids (ar x)=1)):=ae rfl
 have HN:Hid (Dc op kids=(op.filter λx=>decide (jo kids (ar x)=2)).map ar):=ae rfl
 have C1:=ae λW (k:K w W) a=>ada kids a vk W (bo hk k) hlk hv
 have HS:=ae sc
 have YS:=ae λa=>adY kids a
 obtain⟨Ao,co,rfl,hl,-⟩:=ho
 obtain⟨Ak,ck,rfl⟩:=av hk
 generalize Ev op kids=RY at *
 generalize Dc op kids=RN at *
 generalize jo kids=t at *
 have hz2:((w.alloc (.cells #[.slice none 0 0] 43)).alloc (.cells #[.slice none 0 0] 43)).heap.size=w.heap.size+2:=aj
 have hz1:(w.alloc (.cells #[.slice none 0 0] 43)).heap.size=w.heap.size+1:=aj
 have ix:(((w.alloc (.cells #[.slice none 0 0] 43)).alloc (.cells #[.slice none 0 0] 43)).alloc (.cells #[.slice none 0 0] 44)).heap.size=w.heap.size+3:=aj
 have aN:=((ai.new w 43 #[.slice none 0 0]).alloc (.cells #[.slice none 0 0] 43)).alloc (.cells #[.slice none 0 0] 44)
 have hb2:=(ai.new (w.alloc (.cells #[.slice none 0 0] 43)) 43 #[.slice none 0 0]).alloc (.cells #[.slice none 0 0] 44)
 have bG:=ai.new ((w.alloc (.cells #[.slice none 0 0] 43)).alloc (.cells #[.slice none 0 0] 43)) 44 #[.slice none 0 0]
 have y:=K.Rk w (.cells #[.slice none 0 0] 43) (.cells #[.slice none 0 0] 43) (.cells #[.slice none 0 0] 44)
 rw[hz1]at hb2
 rw[hz2]at bG
 clear hk sc hv hz1 hz2
 go_enter func141,ntmps141
 go_upto_region 3 with (fail)
 generalize World.alloc (World.alloc (World.alloc w _) _) _=w3 at *
 obtain⟨g,hg⟩:∃g,g=w.heap.size:=⟨_,rfl⟩
 rw[<- hg]at aN hb2 bG ix⊢
 have HG:=ae hg
 clear hg
 have hmm:=KE (P:=prog) underlying295 w3
 rw[ix]at hmm
 have m0:eC encI (w3.alloc (.map #[] 0)) (g+3) []:=ix▸eC.new w3
 have kA:=K.new w3 (.map #[] 0)
 have KI:=Es (P:=prog) (kt:=3) underlying3
 obtain⟨w4,r4,m4,g4⟩:=FK KI underlying295 m0 0 (.func (.func 233) #[] #[.pointer (some ⟨g+1,0,none⟩)])
 obtain⟨w5,r5,m5,g5⟩:=FK KI underlying295 m4 1 (.func (.func 234) #[] #[.pointer (some ⟨g,0,none⟩)])
 obtain⟨w6,r6,m6,g6⟩:=FK KI underlying295 m5 2 (.func (.func 235) #[] #[.pointer (some ⟨g+2,0,none⟩)])
 have NK:sG (sG (sG ([]:List (Int×Value)) 0 (.func (.func 233) #[] #[.pointer (some ⟨g+1,0,none⟩)])) 1 (.func (.func 234) #[] #[.pointer (some ⟨g,0,none⟩)])) 2 (.func (.func 235) #[] #[.pointer (some ⟨g+2,0,none⟩)])=[(0,.func (.func 233) #[] #[.pointer (some ⟨g+1,0,none⟩)]),(1,.func (.func 234) #[] #[.pointer (some ⟨g,0,none⟩)]),(2,.func (.func 235) #[] #[.pointer (some ⟨g+2,0,none⟩)])]:=cV
 rw[NK]at m6
 simp only[encI]at r4 r5 r6
 have Y:=(ag.aT kA _).tr (((ag.eU (X:=λk=>k=g+3) g4 λk e=>aA).tr (ag.eU (X:=λk=>k=g+3) g5 λk e=>aA)).tr (ag.eU (X:=λk=>k=g+3) g6 λk e=>aA))
 have k6:=Y.k y λk hk=>QC
 have hsz:=m6.lt
 have aAk:=aN.aW Y af
 have aAl:=hb2.aW Y af
 have aAm:=bG.aW Y af
 go_wp2_with fail
 clear r4 r5 r6 hmm m0 m4 m5 g4 g5 g6 aN hb2 bG Y kA y NK ix
 have G:Mw w6.heap.size g (g+1) (g+2) [] [] [] w6:=⟨_,_,_,aAk,aAl,aAm,wH.nil _ _ _ _ _ _ _ _⟩
 have uu:ag (λk=>k=g∨k=g+1∨k=g+2) w6 w6:=ag.rf _ _
 have HHZ:=ae hsz
 go_loopw [12,13,14,22] (fun _ _ _ i W=>∃j:Nat,j<=op.length/\i=.int .i64 j/\Mw w6.heap.size g (g+1) (g+2) ((op.take j).filter fun x=>decide (t (ar x)=1)) ((op.take j).filter fun x=>decide (t (ar x)=0)) (((op.take j).filter fun x=>decide (t (ar x)=2)).map ar) W/\ag (fun k=>k=g∨k=g+1∨k=g+2) w6 W) (fun _ _ _ i _=>op.length-(intOf i).toNat)
 case atStart=>exact⟨0,af,rfl,fP,uu⟩
 case round =>
  clear G uu;obtain⟨j,hj,rfl,G,u⟩:=hrel;by_cases U:j<op.length
  ·have aP:(j:Int)<op.length:=af;obtain⟨b1,o1,cs1,rfl,eS,hrl,d0,d⟩:=eB hl j U ax;have F0:=ae (KJ (λx=>decide (t (ar x)=0)) op j U);have F1:=ae (KJ (λx=>decide (t (ar x)=1)) op j U);have F2:=ae (KJ (λx=>decide (t (ar x)=2)) op j U);have qi:=HS.aa _ (bZ U);have jX:=mw (λx=>decide (t (ar x)=1)) (op.take j);have rV:=mw (λx=>decide (t (ar x)=0)) (op.take j);have ew:=mw (λx=>decide (t (ar x)=2)) (op.take j);have SZ:(op.take j).length<=1000000:=ba;generalize op[j]=x at *;have ez:=HG.aa;have I:=u.k k6 λk hk=>af
   clear ez;obtain⟨vf,ve,rfl,hf,he⟩:=hrl w (K.rf w);have HE:Hid (∀W,K w W->dm x (.agg (aE x vf ve)) W):=ae λW k=>⟨_,_,rfl,eO _ _ _ _ hf k,bo he k⟩
   have q9:∀i,i<8->wr.cell? ⟨b1,o1+j*8+i,none⟩=(aE x vf ve)[i]?:=λi hi=>(d wr I i hi).trans Array.getElem?_toList
   have q0:wr.cell? ⟨b1,o1+j*8,none⟩=some (.int .i64 x.kind):=d0 wr I;have hx:=ai.new wr 126 (aE x vf ve);have y:=hx.aU;obtain⟨Af,cf,rfl⟩:=cA hf;obtain⟨Ae,ce,rfl⟩:=av he;clear d d0 hf he hrl eS;go_upto_region 7 with (fail);generalize wr.alloc _=w7 at *;clear q9 q0;have q8:=hx.cell;have k07:=I.tr y;have u7:=u.tr (ag.aT y _);go_wp2_with fail
   apply cG (C1.aa w7 k07 (ar x)) k07;intro A D sZ;have u8:=u7.tr (ag.aT D _);have m8:=m6.aW u8 af;have sY:=hx.ay D;clear q8;have q8:=sY.cell;obtain⟨C,B,Z,N,M,J,T⟩:=G;have S0:=N.ay (y.tr D);have S4:=M.ay (y.tr D);have S5:=J.ay (y.tr D);have T8:=T.st (y.tr D);have rr:=u8.size;have E:=ae λn=>(DG (Es (P:=prog) (kt:=3) underlying3) underlying295 (azq A) m8 n).1
   have aAn:=T8.a.blk;have aAo:=T8.b.blk;have aAp:=T8.c.blk;clear N M J T;rcases YS.aa (ar x)with h|h|h
   ·have ql:=E.aa 0;simp only[dh,gu,encI]at ql;simp at ql;rw[h];have Q:Hid ((op.take (j+1)).filter (λx=>decide (t (ar x)=0))=(op.take j).filter (λx=>decide (t (ar x)=0))++[x]):=ae Xd;have H:Hid ((op.take (j+1)).filter (λx=>decide (t (ar x)=1))=(op.take j).filter (λx=>decide (t (ar x)=1))):=ae Xe;have S:Hid (((op.take (j+1)).filter (λx=>decide (t (ar x)=2))).map ar=((op.take j).filter (λx=>decide (t (ar x)=2))).map ar):=ae Xf;have CC:=ae (asp _ _ _ _ (g+1) x _ A (HE.aa A sZ) qi S4 T8.Dn.a (λk hk=>aA) (.inl af) rr af af);clear h E;go_wp2_with fail
    apply aM CC.aa;intro w9 hB;obtain⟨F,O,R,s9⟩:=T8.Dn.box hB af;have N1:=S0.aW s9 aA;have N3:=S5.aW s9 aA;have S6:Mw w6.heap.size g (g+1) (g+2) ((op.take (j+1)).filter λx=>decide (t (ar x)=1)) ((op.take (j+1)).filter λx=>decide (t (ar x)=0)) (((op.take (j+1)).filter λx=>decide (t (ar x)=2)).map ar) w9:=by rw[Q.aa,H.aa,S.aa];have L:=R.Dn.Dn;exact⟨C,F,Z,N1,O,N3,L⟩
    exact Xg
   ·have ql:=E.aa 1;simp only[dh,gu,encI]at ql;simp at ql;rw[h];have Q:Hid ((op.take (j+1)).filter (λx=>decide (t (ar x)=0))=(op.take j).filter (λx=>decide (t (ar x)=0))):=ae Xd;have H:Hid ((op.take (j+1)).filter (λx=>decide (t (ar x)=1))=(op.take j).filter (λx=>decide (t (ar x)=1))++[x]):=ae Xe;have S:Hid (((op.take (j+1)).filter (λx=>decide (t (ar x)=2))).map ar=((op.take j).filter (λx=>decide (t (ar x)=2))).map ar):=ae Xf;have CC:=ae (asq _ _ _ _ g x _ A (HE.aa A sZ) qi S0 T8.a (λk hk=>aA) (.inl af) rr af af);clear h E;go_wp2_with fail
    apply aM CC.aa;intro w9 hB;obtain⟨F,O,R,s9⟩:=T8.box hB af;have N2:=S4.aW s9 aA;have N3:=S5.aW s9 aA;have S6:Mw w6.heap.size g (g+1) (g+2) ((op.take (j+1)).filter λx=>decide (t (ar x)=1)) ((op.take (j+1)).filter λx=>decide (t (ar x)=0)) (((op.take (j+1)).filter λx=>decide (t (ar x)=2)).map ar) w9:=by rw[Q.aa,H.aa,S.aa];have L:=R;exact⟨F,B,Z,O,N2,N3,L⟩
    exact Xg
   ·have ql:=E.aa 2;simp only[dh,gu,encI]at ql;simp at ql;rw[h];have Q:Hid ((op.take (j+1)).filter (λx=>decide (t (ar x)=0))=(op.take j).filter (λx=>decide (t (ar x)=0))):=ae Xd;have H:Hid ((op.take (j+1)).filter (λx=>decide (t (ar x)=1))=(op.take j).filter (λx=>decide (t (ar x)=1))):=ae Xe;have S:Hid (((op.take (j+1)).filter (λx=>decide (t (ar x)=2))).map ar=((op.take j).filter (λx=>decide (t (ar x)=2))).map ar++[ar x]):=ae Xf;have CC:=ae (asr _ _ _ _ (g+2) x _ A (HE.aa A sZ) S5 T8.Dn.Dn.a (.inl af) rr af aA);clear h E;go_wp2_with fail
    apply aM CC.aa;intro w9 hB;obtain⟨F,O,R,s9⟩:=T8.Dn.Dn.box hB af;have N1:=S0.aW s9 aA;have N2:=S4.aW s9 aA;have S6:Mw w6.heap.size g (g+1) (g+2) ((op.take (j+1)).filter λx=>decide (t (ar x)=1)) ((op.take (j+1)).filter λx=>decide (t (ar x)=0)) (((op.take (j+1)).filter λx=>decide (t (ar x)=2)).map ar) w9:=by rw[Q.aa,H.aa,S.aa];have L:=R.Dn;exact⟨C,B,F,N1,N2,O,L⟩
    exact Xg
  ·have aP:¬(j:Int)<op.length:=af;obtain rfl:j=op.length:=af;rw[nC,<- HY.aa,<- HN.aa]at G;obtain⟨C,B,Z,N,M,J,T⟩:=G;have ez:=HG.aa;have I:=u.k k6 λk hk=>af
   clear ez;have q1:=N.cells;have q2:=M.cells;have q3:=J.cells;have nt:=k6.size;have X1:=ae ((T.a.less (Y':=λk=>k<w.heap.size) λk hk=>.inl af).fx λk hk=>af);have X3:=ae ((T.c.less (Y':=λk=>k<w.heap.size) λk hk=>.inl af).fx λk hk=>af);obtain⟨A1,c1,rfl⟩:=T.a.slice;obtain⟨A2,c2,rfl⟩:=T.b.slice;obtain⟨A3,c3,rfl⟩:=T.c.slice;clear N M J T;go_upto_region 11 with (fail);have qs:=And.intro q1 (And.intro q2 q3);refine dV 6 ?_;iterate 6 refine au.i ?_
   clear qs;intro V W kW hA;simp only[aO,aR,cC,aJ,Nat.reduceAdd]at hA;refine aH.h ?_;have kF:=I.tr kW;have Y1:=ae (X1.aa.k kW);have Y3:=ae (X3.aa.k kW);clear hA q1 q2 q3 X1 X3;go_wp2;go_ret3;exact⟨_,_,⟨_,rfl⟩,Y1.aa,Y3.aa,kF⟩
