/-
  The walk of the closure of broker's asks (layer 20). Conditions: lists of at most a million.
-/
import Derived.Test.YtfndfpdhlbmboaaGreatMa19
import Derived.Test.YtfndfpdhlbmboaaGreatMz
set_option maxRecDepth 100000
set_option linter.constructorNameAsVariable false
set_option maxHeartbeats 16000000
set_option linter.unusedVariables false
set_option linter.unusedSimpArgs false
namespace Go.Proofs.YtfndfpdhlbmboaaGreat
open Go Go.RowKit _root_.Go.Proofs.Tryz
theorem atL B o x(h:o.length<=16):(jX B o x).length<=16:=by
 unfold jX;split
 ·exact h
 ·rename_i j;simp only[Bool.or_eq_true,decide_eq_true_eq,not_or]at j;simp;omega
theorem O2 B:∀(l o:List aK),o.length<=16->(l.foldl (jX B) o).length<=16:=by
 intro l
 induction l with
 | nil=>intro o h;exact h
 | cons x l j=>intro o h;exact j _ (atL B o x h)
theorem QF x cs W(h:aU.rel x cs W):cs[0]?≠some (.bool true):=by obtain⟨vf,j,rfl,-⟩:=h;simp
theorem abJ{T Y p B w}(h:bA T p B w)(hG:bD B) base t M o l D vl9
 (hb:ah w t 43 #[D]) (ht:ah w M 90 #[.pointer (some ⟨p.g,0,none⟩)]) (hO:aA Y base 126 aU o D w) (hl:iX (λk=>Y k∨D.ownBlock=some k) aU l vl9 w)
 (hYb:∀k,Y k->k<base) (GP:Y t) (hMo:T t) (hMv:∀k,D.ownBlock=some k->T k) (hXo:¬bw p t) (hXb:∀k,bw p k->k<base) (St:M<base) (JK:M≠t) (hbase:base<=w.heap.size) (hlo:o.length<=16) (wy:l.length<=1000000) :
 Calls prog 156 #[vl9,.pointer (some ⟨t,0,none⟩),.pointer (some ⟨M,0,none⟩)] w λe w'=>e=.returned (.tuple #[])/\LU Y base 43 126 aU (l.foldl (jX B) o) D t w w':=by
 have H:=ae h
 have HG:=ae hG
 have HL:=ae hl
 have HX:=ae hMv
 have HXb:=ae hXb
 have bR:=hO.blk
 have aEk:=hYb t GP
 obtain⟨A9,c9,rfl⟩:=hl.slice
 obtain⟨R,HR⟩:∃R,Hid (R=l.foldl (jX B) o):=⟨_,ae rfl⟩
 rw[<- HR.aa]
 have HJ:=ae λ(j:Nat) (hj:j<l.length)=>fold_succ (jX B) l o j hj
 have HN:=ae λ(j:Nat)=>O2 B (l.take j) o hlo
 have HT:=ae ht
 have uu:ag (λk=>k=t∨D.ownBlock=some k) w w:=ag.rf _ _
 clear h hG hl hMv ht hXb
 go_enter func156,ntmps156
 go_wp2_with fail
 go_loopw [5,6,9] (fun _ _ i W=>∃(j:Nat) (v':Value),j<=l.length/\i=.int .i64 (j:Int)/\ah W t 43 #[v']/\aA Y base 126 aU ((l.take j).foldl (jX B) o) v' W/\(∀k,v'.ownBlock=some k->D.ownBlock=some k∨w.heap.size<=k)/\ag (fun k=>k=t∨D.ownBlock=some k) w W) (fun _ _ i _=>l.length-(intOf i).toNat)
 case atStart=>exact⟨0,D,af,rfl,hb,Bv,λk hk=>.inl hk,uu⟩
 case round =>
  clear hb hO uu;obtain⟨j,v',hj,rfl,hb,hO,hat,u⟩:=hrel;have mI:=u.size;by_cases hlt:j<l.length
  ·have aP:(j:Int)<(l.length:Int):=af;obtain⟨b1,o1,c1,cs1,Z,dA,hcl,hF,hcell⟩:=HL.aa.at j hlt ay;injection Z with Z _ fD;subst Z fD;have J:=ae (HJ.aa j hlt);have xI:=HN.aa j;generalize l[j]=x at *;generalize (l.take j).foldl (jX B) o=A at *;obtain⟨F,gL⟩:∃F,Hid (F=(l.take (j+1)).foldl (jX B) o):=⟨_,ae rfl⟩;replace J:Hid (F=jX B A x):=ae (gL.aa.trans J.aa);have LZ:cs1.length=8:=hcl;have HFr:Hid (Fx (λk=>Y k∨v'.ownBlock=some k) (λW=>aU.rel x cs1 W) wr):=ae (hF.to u (λk hk=>hk.elim (λe=>e ▸ .inl GP) .inr) λk hk C=>by
    rcases C with C|C
    ·exact .inl C
    ·rcases hat k C with h|h
     ·exact .inr h
     ·omega)
   have oO:=hcell wr (u.more λk hk=>hk.elim (λe=>e ▸ .inl GP) .inr);obtain⟨vf,ve,rfl,hf,he⟩:=hF.now;have q9:∀i,i<8->wr.cell? ⟨b1,o1+j*8+i,none⟩=(aD x vf ve)[i]?:=λi hi=>(oO i hi).trans Array.getElem?_toList
   have q0:wr.cell? ⟨b1,o1+j*8,none⟩=some (.int .i64 x.kind):=q9 0 ay;have C:=ah.new wr 126 (aD x vf ve);have L:=C.aS;obtain⟨Af,cf,rfl⟩:=b6 hf;obtain⟨Ae,ce,rfl⟩:=aw he;obtain⟨U,cv,rfl⟩:=hO.slice;have hBr:=H.aa.far u (λk hk=>hk.elim (λe=>e▸hMo) (HX.aa k)) (λk hk C=>by
    rcases hk with rfl|hk
    ·exact hXo C
    ·have:=HXb.aa k C;have:=(bR k hk).1;omega) (λk _ hk=>hk) H.aa.sub (λk hk=>bz (H.aa.low k hk) mI)
   have htr:=HT.aa.aX u (by
    rintro (rfl|hk)
    ·exact JK rfl
    ·have:=(bR _ hk).1;omega)
   have HB:=ae hBr;clear hf he hF hcell oO hcl LZ dA hBr;go_upto_region 3 with (fail);generalize wr.alloc _=w3 at *;obtain⟨N,lG⟩:∃N,Hid (N=wr.heap.size):=⟨_,ae rfl⟩;rw[<- lG.aa]at C⊢;clear q9 q0;have bG:=hb.av L;have EB:=htr.av L;have bE:=hO.st L;have C1:=ae (OH A _ (gN (ar x)) 157 #[.pointer (some ⟨N,0,none⟩)] w3 bE.aq af (λ_ _=>fk) (λW k y _ u hu=>arV y x u _ _ N W hu (C.av k)));have GV:Hid (A.any (gN (ar x))=bT A (ar x)):=ae rfl;rw[GV.aa]at C1;have q1:=bG.cell;go_wp2_with fail
   refine C1.aa.mono ?_;rintro e w4⟨rfl,I⟩;have AU:=L.tr I;have hb4:=bG.av I;have ht4:=EB.av I;have bZ:=C.av I;have cB:=bE.st I;have E:=ae (HB.aa.st AU);have HF4:=ae (HFr.aa.k AU);clear C1 GV q1 bG EB C bE HB HFr hb hO htr;have C2:=ae λW (k:K w4 W)=>Dg B.st (ar x) (.agg (cE B.st p.vl p.vq p.va)) W ⟨_,_,_,rfl,(E.aa.bI.at k).list,(E.aa.bI.at k).prom,(E.aa.bI.at k).ab⟩ (by have:=HG.aa.dk.len;omega)
   have C3:=ae λW (k:K w4 W)=>Tx (E.aa.st k) HG.aa (ar x)
   have HP:Hid (F=if bT A (ar x)||bT B.st.list (ar x)||tu B (ar x)||decide (16<=A.length)then A else A++[x]):=ae J.aa;generalize bT A (ar x)=c1 at *;generalize bT B.st.list (ar x)=c2 at *;generalize tu B (ar x)=c3 at *;have hs1:=aw E.aa.bI.now.list;have fC:=aw E.aa.bI.now.prom;have eU:=aw E.aa.bI.now.ab;have q:=E.aa.q;have qo:=hb4.cells;have qt:=ht4.cells;have qx:=bZ.cells;obtain⟨g,gl,gd,gr,gt,vd,vr,vp,vh,vl,vq,va,vt,jN,vw,kr⟩:=p;simp only at q C2 C3 hs1 fC eU qt;obtain⟨Al,cl,rfl⟩:=hs1;obtain⟨Aq,cq,rfl⟩:=fC;obtain⟨Aa,ca,rfl⟩:=eU;clear J;have hc:(F=A/\(c1=true∨c1=false/\c2=true∨(c1=false/\c2=false)/\c3=true∨((c1=false/\c2=false)/\c3=false)/\(16:Int)<=(A.length:Int)))∨F=A++[x]/\((c1=false/\c2=false)/\c3=false)/\¬(16:Int)<=(A.length:Int):=by rw[HP.aa];have:=@Int.ofNat_le 16 A.length;by_cases h:16<=A.length <;> cases c1 <;> cases c2 <;> cases c3 <;> simp[h] <;> omega
   have qs:=And.intro q (And.intro qo (And.intro qt (And.intro qx (show ar x=(x.br,x.life,x.bV)from rfl))));rcases hc with ⟨HQ,rfl|⟨rfl,rfl⟩|⟨⟨rfl,rfl⟩,rfl⟩|⟨⟨⟨rfl,rfl⟩,rfl⟩,azV⟩⟩|⟨HQ,⟨⟨rfl,rfl⟩,rfl⟩,azV⟩;all_goals
    replace HQ:=ae HQ
    go_upto_region 4 with (fail)
    refine dD 21 [([],[]),([0],[(16,0)]),([1],[]),([1,2],[(18,2)]),([1,3],[(19,3)]),([1,4],[(20,4)]),([1],[]),([1,6],[(22,6)]),([1,5,7],[(21,5),(23,7)]),([1,8],[(17,1),(24,8)]),([9],[(25,9)]),([10],[]),([10],[]),([10,12],[(28,12)]),([10,11,13],[(27,11),(29,13)]),([10,14],[(26,10),(30,14)]),([15],[(31,15)]),([16],[]),([16,17],[(33,17)]),([16,18],[(34,18)]),([16,19],[(32,16),(35,19)])] 42 ?_
    iterate 21 first|refine au.i ?_|refine au.v C2.aa ?_|refine au.v C3.aa ?_
    clear qs
    intro V W kW hA
    simp only[aO,aQ,cz,aJ,Nat.reduceAdd]at hA
    refine aH.h ?_
    have jB:=hb4.av kW
    have r7:=cB.st kW
    have uW:=u.tr (ag.aT (AU.tr kW) _)
    clear hA q qo qt qx hb4 cB C2 C3
   ·exact Qf
   ·exact Qf
   ·exact Qf
   ·exact Qf
   have AR:=bZ.av kW;have HFW:=HF4.aa.k kW;clear bZ;have q1:=jB.cell;have q2:=AR.cell;have azW:=r7.blk;have O:=K.new W (.cells (aD x (.slice Af x.f.length cf) (.slice Ae x.es.length ce)) 126);have ER:=r7.st O;have sg:=jB.av O;have hr:=ew.new (S:=aU) (e:=126) (v:=.agg (aD x (.slice Af x.f.length cf) (.slice Ae x.es.length ce))) HFW 0 (eV _);go_wp2_with (at_builtin;refine jt rfl _ _ 43 rfl _ 8 96 oH rfl rfl ER _ rfl x ?p1 ?p2 ?p3 ?_)
   case p1=>exact hr.less λk hk=>hk
   case p2=>omega
   case p3=>exact bn hbase (bn uW.size O.size)
   intro G w9 bq bB cQ aZ;rw[<- HQ.aa]at bq;have Q:=sg.grown bB (by intro e;have:=(azW t e.symm).1;omega);have q9:=Q.cell;have z9:=Q.frozen;have HU:=ae ((uW.tr (ag.aT O _)).gg (X:=λk=>k=t∨D.ownBlock=some k) (Y:=λk=>k=t∨(Value.slice U A.length cv).ownBlock=some k) ((ag.eM (X:=λk=>k=t∨(Value.slice U A.length cv).ownBlock=some k) bB λk e=>.inr e).tr (ag.bL (X:=λk=>k=t∨(Value.slice U A.length cv).ownBlock=some k) (.inl rfl) 0 G)) λk hk h=>by
    rcases h with h|h
    ·exact .inl h
    ·rcases hat k h with h|h
     ·exact .inr h
     ·omega)
   have Zi:Hid (ah (w9.setCell ⟨t,0,none⟩ G) t 43 #[G]):=ae (Q.aM 0 G);have yZ:=ae (bq.to (X:=λk=>k=t) (ag.bL (X:=λk=>k=t) rfl 0 G) (λk hk=>Qd) (λk hk e=>Wp) λk _ hk=>.inl hk);have pq:Hid (∀k,G.ownBlock=some k->D.ownBlock=some k∨w.heap.size<=k):=ae λk hk=>by
    rcases cQ with h|h
    ·exact hat k (h▸hk)
    ·rw[h]at hk;injection hk with hk;have:=uW.size;exact .inr af
   obtain⟨A9',c9',rfl⟩:=bq.slice;clear bq bB cQ aZ Q sg ER hr q1 q2 jB r7 AR;go_wp2;go_roundw
   case rel=>exact⟨j+1,_,af,bJ,Zi.aa,by rw[<- gL.aa];exact yZ.aa,pq.aa,HU.aa⟩
   case measure=>simp[intOf];omega
  ·have aP:¬(j:Int)<(l.length:Int):=af;obtain rfl:j=l.length:=af;rw[lL,<- HR.aa]at hO;go_wp2;go_end0;exact⟨rfl,v',hb,hO,hat,u⟩
theorem ads{B y}:∀ {l o:List aK},y∈l.foldl (jX B) o->y∈o∨y∈l:=by
 intro l
 induction l with
 | nil=>intro o h;exact .inl h
 | cons x l j =>
  grind [jX]
theorem atM{B y}:∀ {l:List fw} {o:List aK},y∈l.foldl (λo k=>k.asks.foldl (jX B) o) o->y∈o∨∃m∈l,y∈m.asks:=by
 intro l
 induction l with
 | nil=>intro o h;exact .inl h
 | cons x l j =>
  intro o h;rcases j h with h|⟨m,hm,h⟩
  ·grind [ads]
  ·grind
theorem adt B:∀(l:List fw) (o:List aK),o.length<=16->(l.foldl (λo k=>k.asks.foldl (jX B) o) o).length<=16:=by
 intro l
 induction l with
 | nil=>intro o h;exact h
 | cons x l j=>intro o h;exact j _ (O2 B _ _ h)
theorem adu B:(mo B).length<=16:=adt B _ _ (O2 B _ _ aj)
theorem bD.rep{B}(j:bD B) k:i7 B k=yr∨dZ (i7 B k)=true/\pT (i7 B k):=by
 unfold i7
 cases h:B.bQ.find? λp=>decide (p.1=k)with
 | none=>exact .inl rfl
 | some x=>exact .inr (j.bQ x (List.mem_of_find?_eq_some h))
theorem UM{α f}{l:List α}(h:j0 f l=true):l.length<=16/\∀x∈l,f x=true:=by
 grind [j0]
theorem bD.last{B}(C:bD B){m}(h:m∈dy B):(∀x∈m.asks,bK x=true/\cD x)/\m.cK.length<=16/\m.asks.length<=16:=by
 obtain⟨k,-,rfl⟩:=List.mem_map.1 h;rcases C.rep k with e|⟨y,A⟩
 ·grind [yr]
 ·have j:=y;unfold dZ at j;simp only[dE]at j;obtain⟨⟨⟨⟨⟨⟨-,D⟩,t⟩,-⟩,-⟩,-⟩,-⟩:=j;exact⟨λx u=>⟨(UM t).2 x u,A.2.2.2.1 x u⟩,(UM D).1,(UM t).1⟩
theorem bD.asks{B}(j:bD B){x}(h:x∈mo B):bK x=true/\cD x:=by
 rcases atM h with h|⟨m,hm,h⟩
 ·rcases ads h with h|h
  ·simp at h
  ·obtain⟨t,u,rfl⟩:=List.mem_map.1 (lM h);have:=j.tx.each t (List.mem_filter.1 u).1;exact⟨this.1,this.2.1⟩
 ·exact (j.last hm).1 x h
theorem adv{B}(j:bD B):(dy B).length<=16:=by unfold dy;rw[List.length_map];exact bn (Hv _ _) (sD j.tr).2
theorem ax9 x cs W(h:xJ.rel x cs W):cs[0]?≠some (.bool true):=by obtain⟨j,t,B,y,u,A,rfl,-⟩:=h;simp
theorem acb{M p B w}(h:bA M p B w)(hG:bD B) :
 Calls prog 93 #[.pointer (some ⟨p.g,0,none⟩)] w λe w'=>∃v',e=.returned v'/\Fx M (λW=>aq aU (mo B) v' W) w'/\K w w':=by
 have H:=ae h
 have HG:=ae hG
 have HM:=ae h.low
 have U:=ae h.sub
 have HAB:Hid (mo B=(dy B).foldl (λo k=>k.asks.foldl (jX B) o) ((je B.aB).foldl (jX B) [])):=ae rfl
 have HJ:=ae λ(j:Nat) (hj:j<(dy B).length)=>fold_succ (λo (k:fw)=>k.asks.foldl (jX B) o) (dy B) ((je B.aB).foldl (jX B) []) j hj
 have HN:=ae λ(j:Nat)=>adt B ((dy B).take j) _ (O2 B (je B.aB) [] aj)
 have HLM:=ae λm hm=>hG.last (m:=m) hm
 have wy:=adv hG
 have hal:(je B.aB).length<=4:=by unfold je;simp;omega
 have C1:=ae λW (k:K w W)=>arD B.aB p.vt W (h.bI.at k).aB hG.tx.small ahB
 have hs4:=aw h.bI.now.aB
 have q:=h.q
 have hz1:(w.alloc (.cells #[.pointer (some ⟨p.g,0,none⟩)] 90)).heap.size=w.heap.size+1:=aj
 have k1:=K.lq w (.cells #[.pointer (some ⟨p.g,0,none⟩)] 90) (.cells #[.slice none 0 0] 43)
 have Y:=(ah.new w 90 #[.pointer (some ⟨p.g,0,none⟩)]).alloc (.cells #[.slice none 0 0] 43)
 have Q:=ah.new (w.alloc (.cells #[.pointer (some ⟨p.g,0,none⟩)] 90)) 43 #[.slice none 0 0]
 rw[hz1]at Q
 clear h hG hz1
 go_enter func93,ntmps93
 go_upto_region 2 with (fail)
 generalize World.alloc (World.alloc w _) _=w1 at *
 obtain⟨g,hg⟩:∃g,g=w.heap.size:=⟨_,rfl⟩
 rw[<- hg]at Y Q⊢
 have T:=ae hg
 clear hg
 have hg1:=Q.lt
 have q1:=q w1 k1
 have qt:=Y.cell
 obtain⟨At,ct,ZN⟩:=hs4
 simp only[ZN]at C1
 have HAt:=ae ZN
 clear ZN
 have q1t:w1.cell? ⟨p.g,8,none⟩=some (.slice At B.aB.length ct):=by rw[q1 8,<- HAt.aa];rfl
 clear q1 q
 go_wp2_with fail
 apply DW (C1.aa w1 k1) k1
 intro E y cA k2 L
 have hz2:=k2.size
 have Yp:=Y.av k2
 have azX:=Q.av k2
 have cP:=T.aa
 have R:=λk hk=>HM.aa k (U.aa k hk)
 have Eh:bA (λk=>M k∨k=g+1) p B y:=H.aa.far (X:=λ_=>False) (ag.aT L _) (λ_ h=>h.elim) (λ_ h=>h.elim) (λk hk t=>t.resolve_right af) (λk hk=>.inl (U.aa k hk)) (λk hk=>hk.elim (λh=>Ww) (λh=>af))
 have Rb:=cA.sR.blk
 have eE:iX (λk=>(M k∨k=g+1)∨(Value.slice none 0 0).ownBlock=some k) aU (je B.aB) E y:=cA.sR.GM (λk hk=>.inl (by
  rcases hk with (hk|hk)|hk
  ·have:=HM.aa k hk;omega
  ·omega
  ·simp[Value.ownBlock]at hk)) (λk hk t=>by
   have:=(Rb k hk).1;rcases t with (t|t)|t
   ·have:=HM.aa k t;omega
   ·omega
   ·simp[Value.ownBlock]at t)
 have C2:=ae (abJ Eh HG.aa y.heap.size (g+1) g [] (je B.aB) (.slice none 0 0) E azX Yp (aA.nil _ _ _ _ _) eE (λk hk=>hk.elim (λh=>Ww) (λh=>af)) (.inr rfl) (.inr rfl) (λk hk=>ahE) (λt=>by have:=R _ t;omega) (λk hk=>by have:=R k hk;omega) af af (aC _) aj af)
 have wg:=ae Eh
 have V:=ae R
 obtain⟨A2,c2,rfl⟩:=eE.slice
 clear Eh Rb eE cA C1 q1t qt R cP
 go_wp2_with fail
 apply bF C2.aa
 rintro A⟨v3,I0,bE,IL,G⟩
 replace IL:∀k,v3.ownBlock=some k->y.heap.size<=k:=λk hk=>by
  rcases IL k hk with h|h
  ·simp[Value.ownBlock]at h
  ·exact h
 replace G:ag (λk=>k=g+1) y A:=G.more λk hk=>hk.elim id λh=>Fv
 have jl:=G.size
 have akg:=HM.aa
 have ou:bA (λk=>M k∨k=g+1∨(y.heap.size<=k/\k<A.heap.size)) p B A:=wg.aa.far G (λk hk=>.inr hk) (λk hk t=>by have:=V.aa k t;have:=T.aa;omega) (λk hk t=>by
  rcases t with h|h|h
  ·exact .inl h
  ·exact .inr h
  ·omega) (λk hk=>.inl (U.aa k hk)) (λk hk=>by
   rcases hk with h|h|h
   ·have:=akg k h;have:=L.size;omega
   ·omega
   ·omega)
 have akh:=Yp.aX G af
 have C3:=ae (TW ou HG.aa)
 have q3:=akh.cell
 clear C2 ou akg
 go_wp2_with fail
 apply lQ C3.aa
 rintro v4 D⟨EJ,S⟩
 have kP:=Fx.fix EJ ay ax9
 have Sv:=ae kP
 obtain⟨A4,c4,rfl⟩:=kP.slice
 have aki:=I0.av S
 have cB:=bE.st S
 have u4:=G.tr (ag.aT S (λk=>k=g+1))
 have akj:=bE.blk
 have ir:=S.size
 have HZ:=ae (And.intro jl ir)
 clear C3 q3 kP EJ akh I0 bE
 go_wp2_with fail
 have akk:∀k,v3.ownBlock=some k->(y.heap.size<=k/\k<A.heap.size)∨D.heap.size<=k:=λk hk=>.inl (akj k hk)
 have uu:ag (λk=>k=g+1∨(y.heap.size<=k/\k<A.heap.size)) D D:=ag.rf _ _
 clear akj IL
 go_loopw [6,18] (fun _ i W=>∃(j:Nat) (v':Value),j<=(dy B).length/\i=.int .i64 (j:Int)/\ah W (g+1) 43 #[v']/\aA (fun k=>M k∨k=g+1) y.heap.size 126 aU (((dy B).take j).foldl (fun o (k:fw)=>k.asks.foldl (jX B) o) ((je B.aB).foldl (jX B) [])) v' W/\(∀k,v'.ownBlock=some k->(y.heap.size<=k/\k<A.heap.size)∨D.heap.size<=k)/\ag (fun k=>k=g+1∨(y.heap.size<=k/\k<A.heap.size)) D W/\ag (fun k=>k=g+1) y W) (fun _ i _=>(dy B).length-(intOf i).toNat)
 case atStart=>exact⟨0,v3,af,rfl,aki,by simpa using cB,akk,uu,u4⟩
 case round =>
  clear aki cB akk uu u4;obtain⟨j,v',hj,rfl,hb,F,N,u,u2⟩:=hrel;by_cases hlt:j<(dy B).length
  ·have aP:(j:Int)<((dy B).length:Int):=af;obtain⟨b1,o1,c1,cs1,Z,dA,hcl,hF,hcell⟩:=Sv.aa.at j hlt ay;injection Z with Z _ fD;subst Z fD;have J:=ae (HJ.aa j hlt);have xI:=HN.aa j;have hmm:=HLM.aa _ (bS hlt);generalize (dy B)[j]=m at *;generalize ((dy B).take j).foldl (λo (k:fw)=>k.asks.foldl (jX B) o) ((je B.aB).foldl (jX B) [])=oj at *;obtain⟨P',gL⟩:∃P',Hid (P'=((dy B).take (j+1)).foldl (λo (k:fw)=>k.asks.foldl (jX B) o) ((je B.aB).foldl (jX B) [])):=⟨_,ae rfl⟩;replace J:Hid (P'=m.asks.foldl (jX B) oj):=ae (gL.aa.trans J.aa);have oO:=hcell wr (u.more λk hk=>by
    rcases hk with h|h
    ·exact .inr (.inl h)
    ·exact .inr (.inr h))
   obtain⟨v1,E,v3',v4',v5,v6,rfl,g1,g2,g3,g4,g5,g6⟩:=hF.now;have za:Fx (λk=>M k∨k=g+1∨(y.heap.size<=k/\k<A.heap.size)) (λW=>aq aU m.asks E W) D:=hF.mono λW h=>by obtain⟨x1,x2,x3,x4,x5,x6,e,h1,h2,-⟩:=h;simp at e;obtain⟨-,rfl,-⟩:=e;exact h2
   have qu:=Fx.fix za ay QF;have ZO:=u.size;have ua:Hid (iX (λk=>(M k∨k=g+1)∨v'.ownBlock=some k) aU m.asks E wr):=ae (qu.to u (λk hk=>by
    rcases hk with h|h
    ·exact .inr (.inl h)
    ·exact .inr (.inr h)) (λk hk t=>by
     rcases t with (h|h)|h
     ·exact .inl h
     ·exact .inr (.inl h)
     ·rcases N k h with h|h
      ·exact .inr (.inr h)
      ·omega) ay)
   have q9:∀i,i<8->wr.cell? ⟨b1,o1+j*8+i,none⟩=(km m v1 E v3' v4' v5 v6)[i]?:=λi hi=>(oO i hi).trans Array.getElem?_toList
   have q0:wr.cell? ⟨b1,o1+j*8,none⟩=some (.int .i64 m.kind):=q9 0 ay;obtain⟨A1,c1,rfl⟩:=aw g1;obtain⟨Nj,Nk,rfl⟩:=aw g2;obtain⟨A3,c3,rfl⟩:=aw g3;obtain⟨A4,c4,rfl⟩:=aw g4;obtain⟨A5,c5,rfl⟩:=aw g5;obtain⟨A6,c6,rfl⟩:=aw g6;have t:=ah.new wr 156 (km m (.slice A1 m.cK.length c1) (.slice Nj m.asks.length Nk) (.slice A3 m.entries.length c3) (.slice A4 m.fc.length c4) (.slice A5 m.dN.length c5) (.slice A6 m.ends.length c6));have C:=t.aS;clear hcell oO hF za qu hcl dA g1 g2 g3 g4 g5 g6;go_upto_region 7 with (fail);generalize wr.alloc _=w5 at *;clear q9 q0;have q8:=t.cell;have cP:=T.aa;have FU:=L.size;have Mj:=C.size;have I:=u2.tr (ag.aT C (λk=>k=g+1));have cC:=F.st C;have gT:=hb.av C;have ht5:=Yp.aX I af;have O:=cC.blk;have EE:bA (λk=>M k∨k=g+1∨v'.ownBlock=some k) p B w5:=wg.aa.far I (λk hk=>.inr hk) (λk hk t=>by have:=V.aa k t;omega) (λk hk t=>by
    rcases t with h|h|h
    ·exact .inl h
    ·exact .inr h
    ·have:=(O k h).1;omega) (λk hk=>.inl (U.aa k hk)) (λk hk=>by
     rcases hk with h|h|h
     ·have:=HM.aa k h;have:=I.size;omega
     ·have:=I.size;omega
     ·exact (O k h).2)
   have C5:=ae (abJ EE HG.aa y.heap.size (g+1) g oj m.asks v' _ gT ht5 cC (ua.aa.st C) (λk hk=>hk.elim (λh=>Ww) (λh=>af)) (.inr rfl) (.inr (.inl rfl)) (λk hk=>.inr (.inr hk)) (λt=>by have:=V.aa _ t;omega) (λk hk=>by have:=V.aa k hk;omega) af af (by have:=I.size;omega) xI (by have:=hmm.2.2;omega));rw[<- J.aa]at C5;clear EE cP FU Mj ZO hb F cC gT ht5;go_wp2_with fail
   apply bF C5.aa;rintro w6⟨v6',jm,ko,akl,u6⟩;have ZO:=u.size;have Mj:=C.size;have azY:∀k,v6'.ownBlock=some k->(y.heap.size<=k/\k<A.heap.size)∨D.heap.size<=k:=λk hk=>by
    rcases akl k hk with h|h
    ·exact N k h
    ·exact .inr af
   have u7:=(u.tr (ag.aT C _)).gg u6 λk hk h=>by
    rcases h with h|h
    ·exact .inl h
    ·rcases N k h with h|h
     ·exact .inr h
     ·omega
   have u8:=I.gg u6 λk hk h=>by
    rcases h with h|h
    ·exact h
    ·have:=(O k h).1;omega
   clear C5 q8 akl u6 ZO Mj O t;go_wp2;go_roundw
   case rel=>exact⟨j+1,v6',af,bJ,jm,by rw[<- gL.aa];exact ko,azY,u7,u8⟩
   case measure=>simp[intOf];omega
  ·have aP:¬(j:Int)<((dy B).length:Int):=af;obtain rfl:j=(dy B).length:=af;rw[lL,<- HAB.aa]at F;have J:=ae ((F.less (Y':=M) λk hk=>.inl hk).fx λk hk=>by have:=HM.aa k hk;have:=L.size;omega);have kF:=u2.k L λk hk=>by have:=T.aa;omega
   have q9:=hb.cell;obtain⟨A9,c9,rfl⟩:=F.slice;clear F N u u2 hb;go_wp2;go_ret;exact⟨_,rfl,J.aa,kF⟩
theorem jo.settle{l}(h:jo l) a:jo (fJ l a):=by
 unfold fJ;split
 ·exact h
 ·exact h.erase _
structure mT(B B':bj):Prop where
 me:B'.me=B.me
 par:B'.par=B.par
 ai:B'.ai=B.ai
 calls:B'.calls=B.calls
 bQ:B'.bQ=B.bQ
 refused:B'.refused=B.refused
 told:B'.told=B.told
 waits:B'.waits=B.waits
 life:B'.st.life=B.st.life
theorem mT.rf B:mT B B:=⟨rfl,rfl,rfl,rfl,rfl,rfl,rfl,rfl,rfl⟩
theorem mT.tr{A B C}(h:mT A B)(k:mT B C):mT A C:=⟨k.me.trans h.me,k.par.trans h.par,k.ai.trans h.ai,k.calls.trans h.calls,k.bQ.trans h.bQ,k.refused.trans h.refused,k.told.trans h.told,k.waits.trans h.waits,k.life.trans h.life⟩
theorem ahF{s t r}(hk:r.kind≠1)(e:dU s r=some t):t.life=s.life:=by
 grind [dU,yQ,xj,xm,xp,yR]
theorem E9{B r}(hk:r.kind≠1):mT B (cY B r).1:=by
 unfold cY;split
 ·split
  ·exact mT.rf B
  ·rename_i t j;exact⟨rfl,rfl,rfl,rfl,rfl,rfl,rfl,rfl,ahF hk j⟩
 ·exact mT.rf B
theorem Hq{B}(j:bD B){r}(C:jT r):bD (cY B r).1:=by
 unfold cY;split
 ·rename_i u;simp only[dE]at u;split
  ·exact j
  ·rename_i t A;have y:=j.dk.next u.1 C u.2 A;exact⟨j.tr,j.me,j.hm,y,by
    show jo (if r.kind=2 then fJ B.aB (ar r.e)else B.aB);split
    ·exact j.tx.settle _
    ·exact j.tx,j.calls,j.bQ,j.told,j.fe,j.waits,j.yB⟩
 ·exact j
theorem Ph{n x}(hn:n<18446744073709551616)(j:cD x):jT (mr n x):=⟨P6,hn,j,P6,zC,zC⟩
theorem UN{k a}(hk:cJ k)(j:eu a):jT (jj k a):=⟨hk,Du,Hz,j.1,j.2.1,j.2.2⟩
theorem acK{B}(hG:bD B){x}(j:cD x):bD (mq B x).1:=Hq hG (Ph Br j)
theorem acL B x:mT B (mq B x).1:=E9 (by simp[mr])
theorem aqC{B}(j:bD B){a}(t:eu a):bD (nA B a).1:=by
 have h:=Hq j (UN (k:=4) pD t);unfold nA;split
 ·exact⟨h.tr,h.me,h.hm,h.dk,h.tx.settle _,h.calls,h.bQ,h.told,h.fe,h.waits,h.yB⟩
 ·exact j
theorem aqD B a:mT B (nA B a).1:=by
 have h:=E9 (B:=B) (r:=jj 4 a) Du;unfold nA;split
 ·exact⟨h.me,h.par,h.ai,h.calls,h.bQ,h.refused,h.told,h.waits,h.life⟩
 ·exact mT.rf B
section
variable {α β γ:Type} {S:dW α} {S2:dW β} {S3:dW γ} {lo:Nat} {e e2 e3:TypeId} {l l':List α} {l2:List β} {l3:List γ} {v v2 v3:Value} {w w':World}
structure vJ(lo:Nat)(e:TypeId)(S:dW α)(l:List α)(v:Value)(e2:TypeId)(S2:dW β)(l2:List β)(v2:Value)(e3:TypeId)(S3:dW γ)(l3:List γ)(v3:Value)(w:World):Prop where
 a:aA (λk=>k<lo∨v2.ownBlock=some k∨v3.ownBlock=some k) lo e S l v w
 b:aA (λk=>k<lo∨v3.ownBlock=some k∨v.ownBlock=some k) lo e2 S2 l2 v2 w
 c:aA (λk=>k<lo∨v.ownBlock=some k∨v2.ownBlock=some k) lo e3 S3 l3 v3 w
 n12:∀k,v.ownBlock=some k->v2.ownBlock=some k->False
 n23:∀k,v2.ownBlock=some k->v3.ownBlock=some k->False
 n31:∀k,v3.ownBlock=some k->v.ownBlock=some k->False
theorem vJ.Cw(h:vJ lo e S l v e2 S2 l2 v2 e3 S3 l3 v3 w):vJ lo e2 S2 l2 v2 e3 S3 l3 v3 e S l v w:=⟨h.b,h.c,h.a,h.n23,h.n31,h.n12⟩
theorem vJ.st(h:vJ lo e S l v e2 S2 l2 v2 e3 S3 l3 v3 w)(k:K w w'):vJ lo e S l v e2 S2 l2 v2 e3 S3 l3 v3 w':=⟨h.a.st k,h.b.st k,h.c.st k,h.n12,h.n23,h.n31⟩
theorem vJ.nil lo e(S:dW α) y(j:dW β) u(t:dW γ) w:vJ lo e S [] (.slice none 0 0) y j [] (.slice none 0 0) u t [] (.slice none 0 0) w :=
 ⟨aA.nil _ _ _ _ _,aA.nil _ _ _ _ _,aA.nil _ _ _ _ _,λk h=>Fv,λk h=>Fv,λk h=>Fv⟩
theorem vJ.box(h:vJ lo e S l v e2 S2 l2 v2 e3 S3 l3 v3 w){T t}(hb:LU (λk=>k<lo∨v2.ownBlock=some k∨v3.ownBlock=some k) lo T e S l' v t w w')(E:t<lo) :
 ∃v',ah w' t T #[v']/\vJ lo e S l' v' e2 S2 l2 v2 e3 S3 l3 v3 w'/\ag (λk=>k=t∨v.ownBlock=some k) w w':=by
 obtain⟨v',A,B,y,u⟩:=hb
 have F:=h.b.blk
 have D:=h.c.blk
 refine⟨v',A,⟨B,h.b.to u (λk hk=>?_) (λk j h6=>?_) (λk hk C=>?_),h.c.to u (λk hk=>?_) (λk j h6=>?_) (λk hk C=>?_),λk j h6=>?_,h.n23,λk j h6=>?_⟩,u⟩
 ·grind
 ·rcases h6 with rfl|h6
  ·grind
  ·exact h.n12 k h6 j
 ·grind
 ·grind
 ·rcases h6 with rfl|h6
  ·grind
  ·exact h.n31 k j h6
 ·grind
 ·rcases y k j with j|j
  ·exact h.n12 k j h6
  ·grind
 ·rcases y k h6 with h6|h6
  ·exact h.n31 k j h6
  ·grind
end
theorem adw kids a:iZ kids a=0∨iZ kids a=1∨iZ kids a=2:=by
 grind [iZ]
theorem ayY W:(zeroValue 294).run prog W=.ok .nilFunc W:=by rfl
def L7(lo y A C:Nat)(B os:List aK)(ns:List aR)(W:World):Prop :=
 ∃j t u,ah W y 43 #[j]/\ah W A 43 #[t]/\ah W C 44 #[u]/\vJ lo 126 aU B j 126 aU os t 26 b5 ns u W
theorem apF op kids vo vk w(ho:aq aU op vo w)(hk:aq xJ kids vk w)(ru:∀x∈op,eB x)(hlo:op.length<=1000000)(hlk:kids.length<=1000000)(hv:∀m∈kids,m.cK.length<=1000000) :
 Calls prog 141 #[vo,vk] w λe w'=>∃C B R,e=.returned (.tuple #[C,B,R])/\Fx (λk=>k<w.heap.size) (λW=>aq aU (D3 op kids) C W) w'/\Fx (λk=>k<w.heap.size) (λW=>aq b5 (Cm op kids) B W) w'/\K w w':=by
 have HY:Hid (D3 op kids=op.filter λx=>decide (iZ kids (ar x)=1)):=ae rfl
 have HN:Hid (Cm op kids=(op.filter λx=>decide (iZ kids (ar x)=2)).map ar):=ae rfl
 have C1:=ae λW (k:K w W) a=>acJ kids a vk W (bo hk k) hlk hv
 have HS:=ae ru
 have Yq:=ae λa=>adw kids a
 obtain⟨Ao,co,rfl,hl,-⟩:=ho
 obtain⟨Ak,ck,rfl⟩:=aw hk
 generalize D3 op kids=RY at *
 generalize Cm op kids=RN at *
 generalize iZ kids=t at *
 have hz2:((w.alloc (.cells #[.slice none 0 0] 43)).alloc (.cells #[.slice none 0 0] 43)).heap.size=w.heap.size+2:=aj
 have hz1:(w.alloc (.cells #[.slice none 0 0] 43)).heap.size=w.heap.size+1:=aj
 have jl:(((w.alloc (.cells #[.slice none 0 0] 43)).alloc (.cells #[.slice none 0 0] 43)).alloc (.cells #[.slice none 0 0] 44)).heap.size=w.heap.size+3:=aj
 have aN:=((ah.new w 43 #[.slice none 0 0]).alloc (.cells #[.slice none 0 0] 43)).alloc (.cells #[.slice none 0 0] 44)
 have hb2:=(ah.new (w.alloc (.cells #[.slice none 0 0] 43)) 43 #[.slice none 0 0]).alloc (.cells #[.slice none 0 0] 44)
 have bG:=ah.new ((w.alloc (.cells #[.slice none 0 0] 43)).alloc (.cells #[.slice none 0 0] 43)) 44 #[.slice none 0 0]
 have y:=K.QV w (.cells #[.slice none 0 0] 43) (.cells #[.slice none 0 0] 43) (.cells #[.slice none 0 0] 44)
 rw[hz1]at hb2
 rw[hz2]at bG
 clear hk ru hv hz1 hz2
 go_enter func141,ntmps141
 go_upto_region 3 with (fail)
 generalize World.alloc (World.alloc (World.alloc w _) _) _=w3 at *
 obtain⟨g,hg⟩:∃g,g=w.heap.size:=⟨_,rfl⟩
 rw[<- hg]at aN hb2 bG jl⊢
 have HG:=ae hg
 clear hg
 have hmm:=Ka (P:=prog) underlying295 w3
 rw[jl]at hmm
 have m0:ei encI (w3.alloc (.map #[] 0)) (g+3) []:=jl▸ei.new w3
 have kA:=K.new w3 (.map #[] 0)
 have KI:=DX (P:=prog) (kt:=3) underlying3
 obtain⟨w4,r4,m4,g4⟩:=Fh KI underlying295 m0 0 (.func (.func 233) #[] #[.pointer (some ⟨g+1,0,none⟩)])
 obtain⟨w5,r5,m5,g5⟩:=Fh KI underlying295 m4 1 (.func (.func 234) #[] #[.pointer (some ⟨g,0,none⟩)])
 obtain⟨w6,r6,m6,g6⟩:=Fh KI underlying295 m5 2 (.func (.func 235) #[] #[.pointer (some ⟨g+2,0,none⟩)])
 have Nl:rM (rM (rM ([]:List (Int×Value)) 0 (.func (.func 233) #[] #[.pointer (some ⟨g+1,0,none⟩)])) 1 (.func (.func 234) #[] #[.pointer (some ⟨g,0,none⟩)])) 2 (.func (.func 235) #[] #[.pointer (some ⟨g+2,0,none⟩)])=[(0,.func (.func 233) #[] #[.pointer (some ⟨g+1,0,none⟩)]),(1,.func (.func 234) #[] #[.pointer (some ⟨g,0,none⟩)]),(2,.func (.func 235) #[] #[.pointer (some ⟨g+2,0,none⟩)])]:=fk
 rw[Nl]at m6
 simp only[encI]at r4 r5 r6
 have M:=(ag.aT kA _).tr (((ag.eM (X:=λk=>k=g+3) g4 λk e=>aG).tr (ag.eM (X:=λk=>k=g+3) g5 λk e=>aG)).tr (ag.eM (X:=λk=>k=g+3) g6 λk e=>aG))
 have k6:=M.k y λk hk=>Qg
 have hsz:=m6.lt
 have azZ:=aN.aX M af
 have az0:=hb2.aX M af
 have az1:=bG.aX M af
 go_wp2_with fail
 clear r4 r5 r6 hmm m0 m4 m5 g4 g5 g6 aN hb2 bG M kA y Nl jl
 have Z:L7 w6.heap.size g (g+1) (g+2) [] [] [] w6:=⟨_,_,_,azZ,az0,az1,vJ.nil _ _ _ _ _ _ _ _⟩
 have uu:ag (λk=>k=g∨k=g+1∨k=g+2) w6 w6:=ag.rf _ _
 go_loopw [12,13,14,22] (fun _ _ _ i W=>∃j:Nat,j<=op.length/\i=.int .i64 (j:Int)/\L7 w6.heap.size g (g+1) (g+2) ((op.take j).filter fun x=>decide (t (ar x)=1)) ((op.take j).filter fun x=>decide (t (ar x)=0)) (((op.take j).filter fun x=>decide (t (ar x)=2)).map ar) W/\ag (fun k=>k=g∨k=g+1∨k=g+2) w6 W) (fun _ _ _ i _=>op.length-(intOf i).toNat)
 case atStart=>exact⟨0,af,rfl,mh,uu⟩
 case round =>
  clear Z uu;obtain⟨j,hj,rfl,Z,u⟩:=hrel;by_cases J:j<op.length
  ·have aP:(j:Int)<(op.length:Int):=af;obtain⟨b1,o1,cs1,rfl,eJ,hrl,d0,d⟩:=ed hl j J ay;have F0:=ae (Ke (λx=>decide (t (ar x)=0)) op j J);have F1:=ae (Ke (λx=>decide (t (ar x)=1)) op j J);have F2:=ae (Ke (λx=>decide (t (ar x)=2)) op j J);have pw:=HS.aa _ (bS J);have kO:=ll (λx=>decide (t (ar x)=1)) (op.take j);have rT:=ll (λx=>decide (t (ar x)=0)) (op.take j);have eE:=ll (λx=>decide (t (ar x)=2)) (op.take j);have Sw:(op.take j).length<=1000000:=aY;generalize op[j]=x at *;have cP:=HG.aa;have S:=u.k k6 λk hk=>af
   clear cP;obtain⟨vf,ve,rfl,hf,he⟩:=hrl w (K.rf w);have HE:Hid (∀W,K w W->cV x (.agg (aD x vf ve)) W):=ae λW k=>⟨_,_,rfl,eH _ _ _ _ hf k,bo he k⟩
   have q9:∀i,i<8->wr.cell? ⟨b1,o1+j*8+i,none⟩=(aD x vf ve)[i]?:=λi hi=>(d wr S i hi).trans Array.getElem?_toList
   have q0:wr.cell? ⟨b1,o1+j*8,none⟩=some (.int .i64 x.kind):=d0 wr S;have hx:=ah.new wr 126 (aD x vf ve);have y:=hx.aS;obtain⟨Af,cf,rfl⟩:=b6 hf;obtain⟨Ae,ce,rfl⟩:=aw he;clear d d0 hf he hrl eJ;go_upto_region 7 with (fail);generalize wr.alloc _=w7 at *;clear q9 q0;have q8:=hx.cell;have k07:=S.tr y;have u7:=u.tr (ag.aT y _);go_wp2_with fail
   apply oX (C1.aa w7 k07 (ar x)) k07;intro A D r9;have u8:=u7.tr (ag.aT D _);have m8:=m6.aX u8 af;have r8:=hx.av D;clear q8;have q8:=r8.cell;obtain⟨C,B,R,F,O,G,T⟩:=Z;have Sy:=F.av (y.tr D);have Sz:=O.av (y.tr D);have SA:=G.av (y.tr D);have T8:=T.st (y.tr D);have qv:=u8.size;have E:=ae λn=>(Df (DX (P:=prog) (kt:=3) underlying3) underlying295 (ayY A) m8 n).1
   have az2:=T8.a.blk;have az3:=T8.b.blk;have az4:=T8.c.blk;clear F O G T;rcases Yq.aa (ar x)with h|h|h
   ·have ql:=E.aa 0;simp only[di,fR,encI]at ql;simp at ql;rw[h];have H:Hid ((op.take (j+1)).filter (λx=>decide (t (ar x)=0))=(op.take j).filter (λx=>decide (t (ar x)=0))++[x]):=ae Wx;have Q:Hid ((op.take (j+1)).filter (λx=>decide (t (ar x)=1))=(op.take j).filter (λx=>decide (t (ar x)=1))):=ae Wy;have N:Hid (((op.take (j+1)).filter (λx=>decide (t (ar x)=2))).map ar=((op.take j).filter (λx=>decide (t (ar x)=2))).map ar):=ae Wz;have CC:=ae (arW _ _ _ _ (g+1) x _ A (HE.aa A r9) pw Sz T8.Cw.a (λk hk=>aG) (.inl af) qv af af);clear h E;go_wp2_with fail
    apply bF CC.aa;intro w9 hB;obtain⟨Y,I,L,si⟩:=T8.Cw.box hB af;have N1:=Sy.aX si aG;have N3:=SA.aX si aG;have SB:L7 w6.heap.size g (g+1) (g+2) ((op.take (j+1)).filter λx=>decide (t (ar x)=1)) ((op.take (j+1)).filter λx=>decide (t (ar x)=0)) (((op.take (j+1)).filter λx=>decide (t (ar x)=2)).map ar) w9:=by rw[H.aa,Q.aa,N.aa];have U:=L.Cw.Cw;exact⟨C,Y,R,N1,I,N3,U⟩
    exact WA
   ·have ql:=E.aa 1;simp only[di,fR,encI]at ql;simp at ql;rw[h];have H:Hid ((op.take (j+1)).filter (λx=>decide (t (ar x)=0))=(op.take j).filter (λx=>decide (t (ar x)=0))):=ae Wx;have Q:Hid ((op.take (j+1)).filter (λx=>decide (t (ar x)=1))=(op.take j).filter (λx=>decide (t (ar x)=1))++[x]):=ae Wy;have N:Hid (((op.take (j+1)).filter (λx=>decide (t (ar x)=2))).map ar=((op.take j).filter (λx=>decide (t (ar x)=2))).map ar):=ae Wz;have CC:=ae (arX _ _ _ _ g x _ A (HE.aa A r9) pw Sy T8.a (λk hk=>aG) (.inl af) qv af af);clear h E;go_wp2_with fail
    apply bF CC.aa;intro w9 hB;obtain⟨Y,I,L,si⟩:=T8.box hB af;have N2:=Sz.aX si aG;have N3:=SA.aX si aG;have SB:L7 w6.heap.size g (g+1) (g+2) ((op.take (j+1)).filter λx=>decide (t (ar x)=1)) ((op.take (j+1)).filter λx=>decide (t (ar x)=0)) (((op.take (j+1)).filter λx=>decide (t (ar x)=2)).map ar) w9:=by rw[H.aa,Q.aa,N.aa];have U:=L;exact⟨Y,B,R,I,N2,N3,U⟩
    exact WA
   ·have ql:=E.aa 2;simp only[di,fR,encI]at ql;simp at ql;rw[h];have H:Hid ((op.take (j+1)).filter (λx=>decide (t (ar x)=0))=(op.take j).filter (λx=>decide (t (ar x)=0))):=ae Wx;have Q:Hid ((op.take (j+1)).filter (λx=>decide (t (ar x)=1))=(op.take j).filter (λx=>decide (t (ar x)=1))):=ae Wy;have N:Hid (((op.take (j+1)).filter (λx=>decide (t (ar x)=2))).map ar=((op.take j).filter (λx=>decide (t (ar x)=2))).map ar++[ar x]):=ae Wz;have CC:=ae (arY _ _ _ _ (g+2) x _ A (HE.aa A r9) SA T8.Cw.Cw.a (.inl af) qv af aG);clear h E;go_wp2_with fail
    apply bF CC.aa;intro w9 hB;obtain⟨Y,I,L,si⟩:=T8.Cw.Cw.box hB af;have N1:=Sy.aX si aG;have N2:=Sz.aX si aG;have SB:L7 w6.heap.size g (g+1) (g+2) ((op.take (j+1)).filter λx=>decide (t (ar x)=1)) ((op.take (j+1)).filter λx=>decide (t (ar x)=0)) (((op.take (j+1)).filter λx=>decide (t (ar x)=2)).map ar) w9:=by rw[H.aa,Q.aa,N.aa];have U:=L.Cw;exact⟨C,B,Y,N1,N2,I,U⟩
    exact WA
  ·have aP:¬(j:Int)<(op.length:Int):=af;obtain rfl:j=op.length:=af;rw[lL,<- HY.aa,<- HN.aa]at Z;obtain⟨C,B,R,F,O,G,T⟩:=Z;have cP:=HG.aa;have S:=u.k k6 λk hk=>af
   clear cP;have q1:=F.cells;have q2:=O.cells;have q3:=G.cells;have mI:=k6.size;have X1:=ae ((T.a.less (Y':=λk=>k<w.heap.size) λk hk=>.inl af).fx λk hk=>af);have X3:=ae ((T.c.less (Y':=λk=>k<w.heap.size) λk hk=>.inl af).fx λk hk=>af);obtain⟨A1,c1,rfl⟩:=T.a.slice;obtain⟨A2,c2,rfl⟩:=T.b.slice;obtain⟨A3,c3,rfl⟩:=T.c.slice;clear F O G T;go_upto_region 11 with (fail);have qs:=And.intro q1 (And.intro q2 q3);refine dD 6 [([],[]),([],[]),([],[]),([0],[(40,0)]),([1],[(41,1)]),([2],[(42,2)])] 43 ?_;iterate 6 refine au.i ?_
   clear qs;intro V W kW hA;simp only[aO,aQ,cz,aJ,Nat.reduceAdd]at hA;refine aH.h ?_;have kF:=S.tr kW;have Y1:=ae (X1.aa.k kW);have Y3:=ae (X3.aa.k kW);clear hA q1 q2 q3 X1 X3;go_wp2;go_ret3;exact⟨_,_,⟨_,rfl⟩,Y1.aa,Y3.aa,kF⟩
