/-
  The walk of the closure of broker's asks (layer 20). Conditions: lists of at most a million.
-/
import Derived.Test.YtoeiinllelipoaaGreatMa22
import Derived.Test.YtoeiinllelipoaaGreatMz
set_option maxRecDepth 100000
set_option maxHeartbeats 16000000
set_option linter.unusedVariables false
set_option linter.unusedSimpArgs false
namespace Go.Proofs.YtoeiinllelipoaaGreat
open Go Go.RowKit Tryz
theorem atl(B:aB)(o:List aq)(x:aq)(h:o.length<=16):(jP B o x).length<=16:=by
 unfold jP;split
 ·exact h
 ·rename_i i;simp only[Bool.or_eq_true,decide_eq_true_eq,not_or]at i;simp;omega
theorem Ov(B:aB):∀(l o:List aq),o.length<=16->(l.foldl (jP B) o).length<=16:=by
 intro l
 induction l with
 | nil=>intro o h;exact h
 | cons x l i=>intro o h;exact i _ (atl B o x h)
theorem P8(x:aq)(cs:List Value)(W:World)(h:aQ.rel x cs W):cs[0]?≠some (.bool true):=by obtain⟨vf,i,rfl,-⟩:=h;simp
theorem abd{L Y:Nat->Prop}{p:cV}{B:aB}{w:World}(h:bC L p B w)(hG:bH B)(base s I:Nat)(o l:List aq)(C vl9:Value)
 (hb:ai w s 39 #[C]) (ht:ai w I 29 #[.pointer (some ⟨p.g,0,none⟩)]) (hO:aT Y base 102 aQ o C w) (hl:i7 (λk=>Y k∨C.ownBlock=some k) aQ l vl9 w)
 (hYb:∀k,Y k->k<base) (GS:Y s) (hMo:L s) (hMv:∀k,C.ownBlock=some k->L k) (hXo:¬bn p s) (hXb:∀k,bn p k->k<base) (Nc:I<base) (hto:I≠s) (hbase:base<=w.heap.size) (hlo:o.length<=16) (yF:l.length<=1000000) :
 Calls prog 126 #[vl9,.pointer (some ⟨s,0,none⟩),.pointer (some ⟨I,0,none⟩)] w λe w'=>e=.returned (.tuple #[])/\LM Y base 39 102 aQ (l.foldl (jP B) o) C s w w':=by
 have H:=ae h
 have HG:=ae hG
 have HL:=ae hl
 have HX:=ae hMv
 have HXb:=ae hXb
 have bN:=hO.blk
 have aDr:=hYb s GS
 obtain⟨A9,c9,rfl⟩:=hl.slice
 obtain⟨R,HR⟩:∃R,Hid (R=l.foldl (jP B) o):=⟨_,ae rfl⟩
 rw[<- HR.aa]
 have HJ:=ae λ(j:Nat) (hj:j<l.length)=>fold_succ (jP B) l o j hj
 have HN:=ae λ(j:Nat)=>Ov B (l.take j) o hlo
 have HT:=ae ht
 have uu:ah (λk=>k=s∨C.ownBlock=some k) w w:=ah.rf _ _
 clear h hG hl hMv ht hXb
 go_enter func126,ntmps126
 go_wp2_with fail
 go_loopw [5,6,9] (fun _ _ i W=>∃(j:Nat) (G:Value),j<=l.length/\i=.int .i64 (j:Int)/\ai W s 39 #[G]/\aT Y base 102 aQ ((l.take j).foldl (jP B) o) G W/\(∀k,G.ownBlock=some k->C.ownBlock=some k∨w.heap.size<=k)/\ah (fun k=>k=s∨C.ownBlock=some k) w W) (fun _ _ i _=>l.length-(intOf i).toNat)
 case atStart=>exact⟨0,C,af,rfl,hb,Dz,λk hk=>.inl hk,uu⟩
 case round =>
  clear hb hO uu;obtain⟨j,G,hj,rfl,hb,hO,hat,u⟩:=hrel;have lP:=u.size;by_cases hlt:j<l.length
  ·have ba:(j:Int)<(l.length:Int):=af;obtain⟨b1,o1,c1,cs1,e9,dK,hcl,hF,hcell⟩:=HL.aa.at j hlt au;injection e9 with e9 _ gX;subst e9 gX;have U:=ae (HJ.aa j hlt);have xh:=HN.aa j;generalize l[j]=x at *;generalize (l.take j).foldl (jP B) o=t at *;obtain⟨D,gD⟩:∃D,Hid (D=(l.take (j+1)).foldl (jP B) o):=⟨_,ae rfl⟩;replace U:Hid (D=jP B t x):=ae (gD.aa.trans U.aa);have wj:cs1.length=8:=hcl;have HFr:Hid (Fx (λk=>Y k∨G.ownBlock=some k) (λW=>aQ.rel x cs1 W) wr):=ae (hF.to u (λk hk=>hk.elim (λe=>e ▸ .inl GS) .inr) λk hk A=>by
    rcases A with A|A
    ·exact .inl A
    ·rcases hat k A with h|h
     ·exact .inr h
     ·omega)
   have nt:=hcell wr (u.more λk hk=>hk.elim (λe=>e ▸ .inl GS) .inr);obtain⟨vf,ve,rfl,hf,he⟩:=hF.now;have q9:∀i,i<8->wr.cell? ⟨b1,o1+j*8+i,none⟩=(aA x vf ve)[i]?:=λi hi=>(nt i hi).trans Array.getElem?_toList
   have q0:wr.cell? ⟨b1,o1+j*8,none⟩=some (.int .i64 x.kind):=q9 0 au;have A:=ai.new wr 102 (aA x vf ve);have O:K wr (wr.alloc (.cells (aA x vf ve) 102)):=(K.rf wr).al _;obtain⟨Af,cf,rfl⟩:=cB hf;obtain⟨Ae,ce,rfl⟩:=az he;obtain⟨Av,cv,rfl⟩:=hO.slice;have hBr:bC L p B wr:=H.aa.far u (λk hk=>hk.elim (λe=>e▸hMo) (HX.aa k)) (λk hk A=>by
    rcases hk with rfl|hk
    ·exact hXo A
    ·have:=HXb.aa k A;have:=(bN k hk).1;omega) (λk _ hk=>hk) H.aa.sub (λk hk=>bB (H.aa.low k hk) lP)
   have Z:=HT.aa.bT u (by
    rintro (rfl|hk)
    ·exact hto rfl
    ·have:=(bN _ hk).1;omega)
   have HB:=ae hBr;clear hf he hF hcell nt hcl wj dK hBr;go_upto_region 3 with (fail);generalize wr.alloc _=w3 at *;obtain⟨J,lQ⟩:∃J,Hid (J=wr.heap.size):=⟨_,ae rfl⟩;rw[<- lQ.aa]at A⊢;clear q9 q0;have N:=hb.below O hb.lt;have Cy:=Z.below O Z.lt;have b5:=hO.st O;have C1:=ae (N9 t _ (fQ (ax x)) 127 #[.pointer (some ⟨J,0,none⟩)] w3 b5.ar af (λ_ _=>nz) (λW k y _ u hu=>arF y x u _ _ J W hu (A.below k A.lt)));have GY:Hid (t.any (fQ (ax x))=cA t (ax x)):=ae rfl;rw[GY.aa]at C1;have q1:=N.cell;go_wp2_with fail
   refine C1.aa.mono ?_;rintro e w4⟨rfl,k4⟩;have yz:=O.tr k4;have hb4:=N.below k4 N.lt;have ht4:=Cy.below k4 Cy.lt;have M:=A.below k4 A.lt;have cE:=b5.st k4;have F:=ae (HB.aa.st yz);have Zn:=ae (HFr.aa.k yz);clear C1 GY q1 N Cy A b5 HB HFr hb hO Z;have C2:=ae λW (k:K w4 W)=>AW B.st (ax x) (.agg (bS B.st p.vl p.vq p.va)) W ⟨_,_,_,rfl,(F.aa.bL.at k).list,(F.aa.bL.at k).prom,(F.aa.bL.at k).ab⟩ (by have:=HG.aa.dk.len;omega)
   have C3:=ae λW (k:K w4 W)=>Tb (F.aa.st k) HG.aa (ax x)
   have HP:Hid (D=if cA t (ax x)||cA B.st.list (ax x)||sS B (ax x)||decide (16<=t.length)then t else t++[x]):=ae U.aa;generalize cA t (ax x)=c1 at *;generalize cA B.st.list (ax x)=c2 at *;generalize sS B (ax x)=c3 at *;have hs1:=az F.aa.bL.now.list;have dX:=az F.aa.bL.now.prom;have dF:=az F.aa.bL.now.ab;have q:=F.aa.q;have qo:=hb4.cells;have qt:=ht4.cells;have qx:=M.cells;obtain⟨g,gl,gd,gr,gt,vd,vr,vp,vh,vl,vq,va,vt,iO,vw,kr⟩:=p;simp only at q C2 C3 hs1 dX dF qt;obtain⟨Al,cl,rfl⟩:=hs1;obtain⟨Aq,cq,rfl⟩:=dX;obtain⟨Aa,ca,rfl⟩:=dF;clear U;cases c1;rotate_left
   ·skip
    have HQ:Hid (D=t):=ae Wt;go_upto_region 4 with (fail);refine eM 21 [([],[]),([0],[(16,0)]),([1],[]),([1,2],[(18,2)]),([1,3],[(19,3)]),([1,4],[(20,4)]),([1],[]),([1,6],[(22,6)]),([1,5,7],[(21,5),(23,7)]),([1,8],[(17,1),(24,8)]),([9],[(25,9)]),([10],[]),([10],[]),([10,12],[(28,12)]),([10,11,13],[(27,11),(29,13)]),([10,14],[(26,10),(30,14)]),([15],[(31,15)]),([16],[]),([16,17],[(33,17)]),([16,18],[(34,18)]),([16,19],[(32,16),(35,19)])] 42 rfl ak ak ak ak au ?_;simp only[dR,dN,ew,dP];iterate 8 (apply aV.is;intro V W kW hp;(try simp only[aI,aJ,aM,aE,aF,ag]at hp);simp[aL,aw,List.lookup,hp,aS,execOp,ay,ag,aN,kW,q,qo,qt,qx,go_sem];rfl)
    (apply aV.is;intro V W kW hp;(try simp only[aI,aJ,aM,aE,aF,ag]at hp);simp[aL,aw,List.lookup,hp,aS,execOp,ay,ag,aN,kW,q,qo,qt,qx,go_sem];rfl)
    exact ah1
   cases c2;rotate_left
   ·skip
    have HQ:Hid (D=t):=ae Wt;go_upto_region 4 with (fail);refine eM 21 [([],[]),([0],[(16,0)]),([1],[]),([1,2],[(18,2)]),([1,3],[(19,3)]),([1,4],[(20,4)]),([1],[]),([1,6],[(22,6)]),([1,5,7],[(21,5),(23,7)]),([1,8],[(17,1),(24,8)]),([9],[(25,9)]),([10],[]),([10],[]),([10,12],[(28,12)]),([10,11,13],[(27,11),(29,13)]),([10,14],[(26,10),(30,14)]),([15],[(31,15)]),([16],[]),([16,17],[(33,17)]),([16,18],[(34,18)]),([16,19],[(32,16),(35,19)])] 42 rfl ak ak ak ak au ?_;simp only[dR,dN,ew,dP];iterate 8 (apply aV.is;intro V W kW hp;(try simp only[aI,aJ,aM,aE,aF,ag]at hp);simp[aL,aw,List.lookup,hp,aS,execOp,ay,ag,aN,kW,q,qo,qt,qx,go_sem];rfl)
    refine aV.is (.bool true) (λV W kW hp=>?_) ?_
    ·(try simp only[aI,aJ,aM,aE,aF,ag]at hp)
     exact ah2
    exact ah1
   cases c3;rotate_left
   ·skip
    have HQ:Hid (D=t):=ae Wt;go_upto_region 4 with (fail);refine eM 21 [([],[]),([0],[(16,0)]),([1],[]),([1,2],[(18,2)]),([1,3],[(19,3)]),([1,4],[(20,4)]),([1],[]),([1,6],[(22,6)]),([1,5,7],[(21,5),(23,7)]),([1,8],[(17,1),(24,8)]),([9],[(25,9)]),([10],[]),([10],[]),([10,12],[(28,12)]),([10,11,13],[(27,11),(29,13)]),([10,14],[(26,10),(30,14)]),([15],[(31,15)]),([16],[]),([16,17],[(33,17)]),([16,18],[(34,18)]),([16,19],[(32,16),(35,19)])] 42 rfl ak ak ak ak au ?_;simp only[dR,dN,ew,dP];iterate 8 (apply aV.is;intro V W kW hp;(try simp only[aI,aJ,aM,aE,aF,ag]at hp);simp[aL,aw,List.lookup,hp,aS,execOp,ay,ag,aN,kW,q,qo,qt,qx,go_sem];rfl)
    refine aV.is (.bool false) (λV W kW hp=>?_) ?_
    ·(try simp only[aI,aJ,aM,aE,aF,ag]at hp)
     exact ah2
    iterate 5 (apply aV.is;intro V W kW hp;(try simp only[aI,aJ,aM,aE,aF,ag]at hp);simp[aL,aw,List.lookup,hp,aS,execOp,ay,ag,aN,kW,q,qo,qt,qx,go_sem];rfl)
    refine aV.is (.bool true) (λV W kW hp=>?_) ?_
    ·(try simp only[aI,aJ,aM,aE,aF,ag]at hp)
     simp[aL,aw,List.lookup,hp,aS,execOp,ay,ag,q,qo,qt,qx,go_sem];exact Wu
    exact ah3
   by_cases QA:16<=t.length
   ·have BM:(16:Int)<=(t.length:Int):=af;have HQ:Hid (D=t):=ae ah4;go_upto_region 4 with (fail);refine eM 21 [([],[]),([0],[(16,0)]),([1],[]),([1,2],[(18,2)]),([1,3],[(19,3)]),([1,4],[(20,4)]),([1],[]),([1,6],[(22,6)]),([1,5,7],[(21,5),(23,7)]),([1,8],[(17,1),(24,8)]),([9],[(25,9)]),([10],[]),([10],[]),([10,12],[(28,12)]),([10,11,13],[(27,11),(29,13)]),([10,14],[(26,10),(30,14)]),([15],[(31,15)]),([16],[]),([16,17],[(33,17)]),([16,18],[(34,18)]),([16,19],[(32,16),(35,19)])] 42 rfl ak ak ak ak au ?_;simp only[dR,dN,ew,dP];iterate 8 (apply aV.is;intro V W kW hp;(try simp only[aI,aJ,aM,aE,aF,ag]at hp);simp[aL,aw,List.lookup,hp,aS,execOp,ay,ag,aN,kW,q,qo,qt,qx,BM,go_sem];rfl)
    refine aV.is (.bool false) (λV W kW hp=>?_) ?_
    ·(try simp only[aI,aJ,aM,aE,aF,ag]at hp)
     exact ah5
    iterate 5 (apply aV.is;intro V W kW hp;(try simp only[aI,aJ,aM,aE,aF,ag]at hp);simp[aL,aw,List.lookup,hp,aS,execOp,ay,ag,aN,kW,q,qo,qt,qx,BM,go_sem];rfl)
    refine aV.is (.bool false) (λV W kW hp=>?_) ?_
    ·(try simp only[aI,aJ,aM,aE,aF,ag]at hp)
     exact ah6
    iterate 6 (apply aV.is;intro V W kW hp;(try simp only[aI,aJ,aM,aE,aF,ag]at hp);simp[aL,aw,List.lookup,hp,aS,execOp,ay,ag,aN,kW,q,qo,qt,qx,BM,go_sem];rfl)
    exact ah7
   have BM:¬(16:Int)<=(t.length:Int):=af;have HQ:Hid (D=t++[x]):=ae ah4;go_upto_region 4 with (fail);refine eM 21 [([],[]),([0],[(16,0)]),([1],[]),([1,2],[(18,2)]),([1,3],[(19,3)]),([1,4],[(20,4)]),([1],[]),([1,6],[(22,6)]),([1,5,7],[(21,5),(23,7)]),([1,8],[(17,1),(24,8)]),([9],[(25,9)]),([10],[]),([10],[]),([10,12],[(28,12)]),([10,11,13],[(27,11),(29,13)]),([10,14],[(26,10),(30,14)]),([15],[(31,15)]),([16],[]),([16,17],[(33,17)]),([16,18],[(34,18)]),([16,19],[(32,16),(35,19)])] 42 rfl ak ak ak ak au ?_;simp only[dR,dN,ew,dP];iterate 8 (apply aV.is;intro V W kW hp;(try simp only[aI,aJ,aM,aE,aF,ag]at hp);simp[aL,aw,List.lookup,hp,aS,execOp,ay,ag,aN,kW,q,qo,qt,qx,BM,go_sem];rfl)
   refine aV.is (.bool false) (λV W kW hp=>?_) ?_
   ·(try simp only[aI,aJ,aM,aE,aF,ag]at hp)
    exact ah5
   iterate 5 (apply aV.is;intro V W kW hp;(try simp only[aI,aJ,aM,aE,aF,ag]at hp);simp[aL,aw,List.lookup,hp,aS,execOp,ay,ag,aN,kW,q,qo,qt,qx,BM,go_sem];rfl)
   refine aV.is (.bool false) (λV W kW hp=>?_) ?_
   ·(try simp only[aI,aJ,aM,aE,aF,ag]at hp)
    exact ah6
   iterate 6 (apply aV.is;intro V W kW hp;(try simp only[aI,aJ,aM,aE,aF,ag]at hp);simp[aL,aw,List.lookup,hp,aS,execOp,ay,ag,aN,kW,q,qo,qt,qx,BM,go_sem];rfl)
   intro V W kW;conv=>lhs;simp only[aJ,aM,eA,ag,Nat.reduceAdd]
   intro hA;refine bu.nil ?_;simp only[bF,Act.put,cO,cM,cL,Nat.reduceAdd,hA];have iP:=hb4.below kW hb4.lt;have GZ:=M.below kW M.lt;have yG:=cE.st kW;have HFW:=Zn.aa.k kW;have k3W:=yz.tr kW;have uW:=u.tr (ah.bg k3W _);clear hA q qo qt qx hb4 cE C2 C3 M;have q1:=iP.cell;have q2:=GZ.cell;have azd:=yG.blk;have Q:K W (W.alloc (.cells (aA x (.slice Af x.f.length cf) (.slice Ae x.es.length ce)) 102)):=(K.rf W).al _;have EF:=yG.st Q;have rQ:=iP.below Q iP.lt;have hr:=fE.new (S:=aQ) (e:=102) (v:=.agg (aA x (.slice Af x.f.length cf) (.slice Ae x.es.length ce))) HFW 0 (fw _);go_wp2_with (at_builtin;refine jK rfl _ _ 39 rfl _ 8 96 rG rfl rfl EF _ rfl x ?p1 ?p2 ?p3 ?_)
   case p1=>exact hr.less λk hk=>hk
   case p2=>omega
   case p3=>exact bq hbase (bq uW.size Q.size)
   intro E w9 bG bJ dc bo;rw[<- HQ.aa]at bG;have T:=rQ.grown bJ (by intro e;have:=(azd s e.symm).1;omega);have q9:=T.cell;have z9:=T.frozen;have HU:Hid (ah (λk=>k=s∨C.ownBlock=some k) w (w9.setCell ⟨s,0,none⟩ E)):=ae ((uW.tr (ah.bg Q _)).iA (X:=λk=>k=s∨C.ownBlock=some k) (Y:=λk=>k=s∨(Value.slice Av t.length cv).ownBlock=some k) ((ah.fM (X:=λk=>k=s∨(Value.slice Av t.length cv).ownBlock=some k) bJ λk e=>.inr e).tr (ah.b6 (X:=λk=>k=s∨(Value.slice Av t.length cv).ownBlock=some k) (.inl rfl) 0 E)) λk hk h=>by
    rcases h with h|h
    ·exact .inl h
    ·rcases hat k h with h|h
     ·exact .inr h
     ·omega)
   have Zt:Hid (ai (w9.setCell ⟨s,0,none⟩ E) s 39 #[E]):=ae (T.aR 0 E);have yy:Hid (aT Y base 102 aQ D E (w9.setCell ⟨s,0,none⟩ E)):=ae (bG.to (X:=λk=>k=s) (ah.b6 (X:=λk=>k=s) rfl 0 E) (λk hk=>PE) (λk hk e=>PF) λk _ hk=>.inl hk);have uP:Hid (∀k,E.ownBlock=some k->C.ownBlock=some k∨w.heap.size<=k):=ae λk hk=>by
    rcases dc with h|h
    ·exact hat k (h▸hk)
    ·rw[h]at hk;injection hk with hk;have:=uW.size;exact .inr af
   obtain⟨A9',c9',rfl⟩:=bG.slice;clear bG bJ dc bo T rQ EF hr q1 q2 iP yG GZ;go_wp2;go_roundw
   case rel=>exact⟨j+1,_,af,bO,Zt.aa,by rw[<- gD.aa];exact yy.aa,uP.aa,HU.aa⟩
   case measure=>simp[intOf];omega
  ·have ba:¬(j:Int)<(l.length:Int):=af;obtain rfl:j=l.length:=af;rw[mC,<- HR.aa]at hO;go_wp2;go_end0;exact⟨rfl,G,hb,hO,hat,u⟩
theorem atm{B:aB}{o:List aq}{x y:aq}(h:y∈jP B o x):y∈o∨y=x:=by
 unfold jP at h;split at h
 ·exact .inl h
 ·simpa using h
theorem acQ{B:aB}{y:aq}:∀ {l o:List aq},y∈l.foldl (jP B) o->y∈o∨y∈l:=by
 intro l
 induction l with
 | nil=>intro o h;exact .inl h
 | cons x l i =>
  intro o h;rcases i h with h|h
  ·rcases atm h with h|h
   ·exact .inl h
   ·exact .inr tQ
  ·exact .inr tQ
theorem atn{B:aB}{y:aq}:∀ {l:List bK} {o:List aq},y∈l.foldl (λo k=>k.asks.foldl (jP B) o) o->y∈o∨∃m∈l,y∈m.asks:=by
 intro l
 induction l with
 | nil=>intro o h;exact .inl h
 | cons x l i =>
  intro o h;rcases i h with h|⟨m,hm,h⟩
  ·rcases acQ h with h|h
   ·exact .inl h
   ·exact .inr ⟨x,aj,h⟩
  ·exact .inr ⟨m,by simp[hm],h⟩
theorem acR(B:aB):∀(l:List bK) (o:List aq),o.length<=16->(l.foldl (λo k=>k.asks.foldl (jP B) o) o).length<=16:=by
 intro l
 induction l with
 | nil=>intro o h;exact h
 | cons x l i=>intro o h;exact i _ (Ov B _ _ h)
theorem acS(B:aB):(lY B).length<=16:=acR B _ _ (Ov B _ _ aj)
theorem bH.rep{B:aB}(i:bH B)(k:Int):iI B k=xQ∨ed (iI B k)=true/\oQ (iI B k):=by
 unfold iI
 cases h:B.bR.find? λp=>decide (p.1=k)with
 | none=>exact .inl rfl
 | some x=>exact .inr (i.bR x (List.mem_of_find?_eq_some h))
theorem Uy{α:Type}{f:α->Bool}{l:List α}(h:ki f l=true):l.length<=16/\∀x∈l,f x=true:=by unfold ki at h;simp only[cz,decide_eq_true_eq,pU]at h;exact h
theorem bH.last{B:aB}(t:bH B){m:bK}(h:m∈cZ B):(∀x∈m.asks,bP x=true/\cK x)/\m.bM.length<=16/\m.asks.length<=16:=by
 obtain⟨k,-,rfl⟩:=List.mem_map.1 h;rcases t.rep k with e|⟨u,A⟩
 ·rw[e];simp[xQ]
 ·have i:=u;unfold ed at i;simp only[cz]at i;obtain⟨⟨⟨⟨⟨⟨-,y⟩,s⟩,-⟩,-⟩,-⟩,-⟩:=i;exact⟨λx j=>⟨(Uy s).2 x j,A.2.2.2.1 x j⟩,(Uy y).1,(Uy s).1⟩
theorem bH.asks{B:aB}(i:bH B){x:aq}(h:x∈lY B):bP x=true/\cK x:=by
 rcases atn h with h|⟨m,hm,h⟩
 ·rcases acQ h with h|h
  ·simp at h
  ·obtain⟨t,j,rfl⟩:=List.mem_map.1 (lE h);have:=i.tx.each t (List.mem_filter.1 j).1;exact⟨this.1,this.2.1⟩
 ·exact (i.last hm).1 x h
theorem acT{B:aB}(h:bH B):(cZ B).length<=16:=by unfold cZ;rw[List.length_map];exact bq (J9 _ _) (vO h.tr).2
theorem axo(x:bK)(cs:List Value)(W:World)(h:vE.rel x cs W):cs[0]?≠some (.bool true):=by obtain⟨y,s,t,j,u,i,rfl,-⟩:=h;simp
theorem abA{M:Nat->Prop}{p:cV}{B:aB}{w:World}(h:bC M p B w)(hG:bH B) :
 Calls prog 62 #[.pointer (some ⟨p.g,0,none⟩)] w λe w'=>∃y,e=.returned y/\Fx M (λW=>ar aQ (lY B) y W) w'/\K w w':=by
 have H:=ae h
 have HG:=ae hG
 have HM:=ae h.low
 have T:=ae h.sub
 have HAB:Hid (lY B=(cZ B).foldl (λo k=>k.asks.foldl (jP B) o) ((jj B.aK).foldl (jP B) [])):=ae rfl
 have HJ:=ae λ(j:Nat) (hj:j<(cZ B).length)=>fold_succ (λo (k:bK)=>k.asks.foldl (jP B) o) (cZ B) ((jj B.aK).foldl (jP B) []) j hj
 have HN:=ae λ(j:Nat)=>acR B ((cZ B).take j) _ (Ov B (jj B.aK) [] aj)
 have HLM:=ae λm hm=>hG.last (m:=m) hm
 have yF:=acT hG
 have hal:(jj B.aK).length<=4:=by unfold jj;simp;omega
 have C1:=ae λW (k:K w W)=>arl B.aK p.vt W (h.bL.at k).aK hG.tx.small ahY
 have hs4:=az h.bL.now.aK
 have q:=h.q
 have hz1:(w.alloc (.cells #[.pointer (some ⟨p.g,0,none⟩)] 29)).heap.size=w.heap.size+1:=aj
 have k1:K w ((w.alloc (.cells #[.pointer (some ⟨p.g,0,none⟩)] 29)).alloc (.cells #[.slice none 0 0] 39)):=((K.rf w).al _).al _
 have Nc:=(ai.new w 29 #[.pointer (some ⟨p.g,0,none⟩)]).alloc (.cells #[.slice none 0 0] 39)
 have J:=ai.new (w.alloc (.cells #[.pointer (some ⟨p.g,0,none⟩)] 29)) 39 #[.slice none 0 0]
 rw[hz1]at J
 clear h hG hz1
 go_enter func62,ntmps62
 go_upto_region 2 with (fail)
 generalize World.alloc (World.alloc w _) _=Q at *
 obtain⟨g,hg⟩:∃g,g=w.heap.size:=⟨_,rfl⟩
 rw[<- hg]at Nc J⊢
 have Y:=ae hg
 clear hg
 have hg1:g+1<Q.heap.size:=J.lt
 have q1:=q Q k1
 have qt:=Nc.cell
 obtain⟨At,ct,ZZ⟩:=hs4
 simp only[ZZ]at C1
 have HAt:=ae ZZ
 clear ZZ
 have q1t:Q.cell? ⟨p.g,8,none⟩=some (.slice At B.aK.length ct):=by rw[q1 8,<- HAt.aa];rfl
 clear q1 q
 go_wp2_with fail
 refine (C1.aa Q k1).mono ?_
 rintro e t⟨F,rfl,cD,O⟩
 have L:=k1.tr O
 have hz2:=O.size
 have Yo:=Nc.below O Nc.lt
 have aze:=J.below O J.lt
 have eC:=Y.aa
 have U:∀k,bn p k->k<w.heap.size:=λk hk=>HM.aa k (T.aa k hk)
 have zx:bC (λk=>M k∨k=g+1) p B t:=H.aa.far (X:=λ_=>False) (ah.bg L _) (λ_ h=>h.elim) (λ_ h=>h.elim) (λk hk s=>s.resolve_right af) (λk hk=>.inl (T.aa k hk)) (λk hk=>hk.elim (λh=>Wv) (λh=>af))
 have QB:=cD.sG.blk
 have fg:i7 (λk=>(M k∨k=g+1)∨(Value.slice none 0 0).ownBlock=some k) aQ (jj B.aK) F t:=cD.sG.GQ (λk hk=>.inl (by
  rcases hk with (hk|hk)|hk
  ·have:=HM.aa k hk;omega
  ·omega
  ·simp[Value.ownBlock]at hk)) (λk hk s=>by
   have:=(QB k hk).1;rcases s with (s|s)|s
   ·have:=HM.aa k s;omega
   ·omega
   ·simp[Value.ownBlock]at s)
 have C2:=ae (abd zx HG.aa t.heap.size (g+1) g [] (jj B.aK) (.slice none 0 0) F aze Yo (aT.nil _ _ _ _ _) fg (λk hk=>hk.elim (λh=>Wv) (λh=>af)) (.inr rfl) (.inr rfl) (λk hk=>Ww) (λs=>by have:=U _ s;omega) (λk hk=>by have:=U k hk;omega) af af (aG _) aj af)
 have uZ:=ae zx
 have S:=ae U
 obtain⟨A2,c2,rfl⟩:=fg.slice
 clear zx QB fg cD C1 q1t qt U eC
 go_wp2_with fail
 refine C2.aa.mono ?_
 rintro e A⟨rfl,v3,wF,b5,IU,E⟩
 replace IU:∀k,v3.ownBlock=some k->t.heap.size<=k:=λk hk=>by
  rcases IU k hk with h|h
  ·simp[Value.ownBlock]at h
  ·exact h
 replace E:ah (λk=>k=g+1) t A:=E.more λk hk=>hk.elim id λh=>Dw
 have iW:=E.size
 have akS:=HM.aa
 have oq:bC (λk=>M k∨k=g+1∨(t.heap.size<=k/\k<A.heap.size)) p B A:=uZ.aa.far E (λk hk=>.inr hk) (λk hk s=>by have:=S.aa k s;have:=Y.aa;omega) (λk hk s=>by
  rcases s with h|h|h
  ·exact .inl h
  ·exact .inr h
  ·omega) (λk hk=>.inl (T.aa k hk)) (λk hk=>by
   rcases hk with h|h|h
   ·have:=akS k h;have:=L.size;omega
   ·omega
   ·omega)
 have akT:=Yo.bT E af
 have C3:=ae (Ty oq HG.aa)
 have q3:=akT.cell
 clear C2 oq akS
 go_wp2_with fail
 refine C3.aa.mono ?_
 rintro e C⟨v4,rfl,EB,V⟩
 have lh:=Fx.fix EB au axo
 have G0:=ae lh
 obtain⟨A4,c4,rfl⟩:=lh.slice
 have akU:=wF.below V wF.lt
 have cE:=b5.st V
 have u4:=E.tr (ah.bg V (λk=>k=g+1))
 have akV:=b5.blk
 have iX:=V.size
 have HZ:=ae (And.intro iW iX)
 clear C3 q3 lh EB akT wF b5
 go_wp2_with fail
 have akW:∀k,v3.ownBlock=some k->(t.heap.size<=k/\k<A.heap.size)∨C.heap.size<=k:=λk hk=>.inl (akV k hk)
 have uu:ah (λk=>k=g+1∨(t.heap.size<=k/\k<A.heap.size)) C C:=ah.rf _ _
 clear akV IU
 go_loopw [6,18] (fun _ i W=>∃(j:Nat) (y:Value),j<=(cZ B).length/\i=.int .i64 (j:Int)/\ai W (g+1) 39 #[y]/\aT (fun k=>M k∨k=g+1) t.heap.size 102 aQ (((cZ B).take j).foldl (fun o (k:bK)=>k.asks.foldl (jP B) o) ((jj B.aK).foldl (jP B) [])) y W/\(∀k,y.ownBlock=some k->(t.heap.size<=k/\k<A.heap.size)∨C.heap.size<=k)/\ah (fun k=>k=g+1∨(t.heap.size<=k/\k<A.heap.size)) C W/\ah (fun k=>k=g+1) t W) (fun _ i _=>(cZ B).length-(intOf i).toNat)
 case atStart=>exact⟨0,v3,af,rfl,akU,by simpa using cE,akW,uu,u4⟩
 case round =>
  clear akU cE akW uu u4;obtain⟨j,y,hj,rfl,hb,I,Z,u,u2⟩:=hrel;by_cases hlt:j<(cZ B).length
  ·have ba:(j:Int)<((cZ B).length:Int):=af;obtain⟨b1,o1,c1,cs1,e9,dK,hcl,hF,hcell⟩:=G0.aa.at j hlt au;injection e9 with e9 _ gX;subst e9 gX;have N:=ae (HJ.aa j hlt);have xh:=HN.aa j;have hmm:=HLM.aa _ (bW hlt);generalize (cZ B)[j]=m at *;generalize ((cZ B).take j).foldl (λo (k:bK)=>k.asks.foldl (jP B) o) ((jj B.aK).foldl (jP B) [])=oj at *;obtain⟨P',gD⟩:∃P',Hid (P'=((cZ B).take (j+1)).foldl (λo (k:bK)=>k.asks.foldl (jP B) o) ((jj B.aK).foldl (jP B) [])):=⟨_,ae rfl⟩;replace N:Hid (P'=m.asks.foldl (jP B) oj):=ae (gD.aa.trans N.aa);have nt:=hcell wr (u.more λk hk=>by
    rcases hk with h|h
    ·exact .inr (.inl h)
    ·exact .inr (.inr h))
   obtain⟨v1,F,v3',v4',v5,v6,rfl,g1,g2,g3,g4,g5,g6⟩:=hF.now;have yE:Fx (λk=>M k∨k=g+1∨(t.heap.size<=k/\k<A.heap.size)) (λW=>ar aQ m.asks F W) C:=hF.mono λW h=>by obtain⟨x1,x2,x3,x4,x5,x6,e,h1,h2,-⟩:=h;simp at e;obtain⟨-,rfl,-⟩:=e;exact h2
   have Et:=Fx.fix yE au P8;have Z0:=u.size;have vB:Hid (i7 (λk=>(M k∨k=g+1)∨y.ownBlock=some k) aQ m.asks F wr):=ae (Et.to u (λk hk=>by
    rcases hk with h|h
    ·exact .inr (.inl h)
    ·exact .inr (.inr h)) (λk hk s=>by
     rcases s with (h|h)|h
     ·exact .inl h
     ·exact .inr (.inl h)
     ·rcases Z k h with h|h
      ·exact .inr (.inr h)
      ·omega) au)
   have q9:∀i,i<8->wr.cell? ⟨b1,o1+j*8+i,none⟩=(fH m v1 F v3' v4' v5 v6)[i]?:=λi hi=>(nt i hi).trans Array.getElem?_toList
   have q0:wr.cell? ⟨b1,o1+j*8,none⟩=some (.int .i64 m.kind):=q9 0 au;obtain⟨A1,c1,rfl⟩:=az g1;obtain⟨G1,rJ,rfl⟩:=az g2;obtain⟨A3,c3,rfl⟩:=az g3;obtain⟨A4,c4,rfl⟩:=az g4;obtain⟨A5,c5,rfl⟩:=az g5;obtain⟨A6,c6,rfl⟩:=az g6;have D:K wr (wr.alloc (.cells (fH m (.slice A1 m.bM.length c1) (.slice G1 m.asks.length rJ) (.slice A3 m.entries.length c3) (.slice A4 m.cH.length c4) (.slice A5 m.bY.length c5) (.slice A6 m.ends.length c6)) 41)):=(K.rf wr).al _;have s:=ai.new wr 41 (fH m (.slice A1 m.bM.length c1) (.slice G1 m.asks.length rJ) (.slice A3 m.entries.length c3) (.slice A4 m.cH.length c4) (.slice A5 m.bY.length c5) (.slice A6 m.ends.length c6));clear hcell nt hF yE Et hcl dK g1 g2 g3 g4 g5 g6;go_upto_region 7 with (fail);generalize wr.alloc _=w5 at *;clear q9 q0;have q8:=s.cell;have eC:=Y.aa;have FK:=L.size;have Md:=D.size;have G:=u2.tr (ah.bg D (λk=>k=g+1));have b9:=I.st D;have gy:=hb.below D hb.lt;have ht5:=Yo.bT G af;have R:=b9.blk;have Ey:bC (λk=>M k∨k=g+1∨y.ownBlock=some k) p B w5:=uZ.aa.far G (λk hk=>.inr hk) (λk hk s=>by have:=S.aa k s;omega) (λk hk s=>by
    rcases s with h|h|h
    ·exact .inl h
    ·exact .inr h
    ·have:=(R k h).1;omega) (λk hk=>.inl (T.aa k hk)) (λk hk=>by
     rcases hk with h|h|h
     ·have:=HM.aa k h;have:=G.size;omega
     ·have:=G.size;omega
     ·exact (R k h).2)
   have C5:=ae (abd Ey HG.aa t.heap.size (g+1) g oj m.asks y _ gy ht5 b9 (vB.aa.st D) (λk hk=>hk.elim (λh=>Wv) (λh=>af)) (.inr rfl) (.inr (.inl rfl)) (λk hk=>.inr (.inr hk)) (λs=>by have:=S.aa _ s;omega) (λk hk=>by have:=S.aa k hk;omega) af af (by have:=G.size;omega) xh (by have:=hmm.2.2;omega));rw[<- N.aa]at C5;clear Ey eC FK Md Z0 hb I b9 gy ht5;go_wp2_with fail
   refine C5.aa.mono ?_;rintro e w6⟨rfl,v6',iy,nO,akX,u6⟩;have Z0:=u.size;have Md:=D.size;have azf:∀k,v6'.ownBlock=some k->(t.heap.size<=k/\k<A.heap.size)∨C.heap.size<=k:=λk hk=>by
    rcases akX k hk with h|h
    ·exact Z k h
    ·exact .inr af
   have u7:ah (λk=>k=g+1∨(t.heap.size<=k/\k<A.heap.size)) C w6:=(u.tr (ah.bg D _)).iA u6 λk hk h=>by
    rcases h with h|h
    ·exact .inl h
    ·rcases Z k h with h|h
     ·exact .inr h
     ·omega
   have u8:ah (λk=>k=g+1) t w6:=G.iA u6 λk hk h=>by
    rcases h with h|h
    ·exact h
    ·have:=(R k h).1;omega
   clear C5 q8 akX u6 Z0 Md R s;go_wp2;go_roundw
   case rel=>exact⟨j+1,v6',af,bO,iy,by rw[<- gD.aa];exact nO,azf,u7,u8⟩
   case measure=>simp[intOf];omega
  ·have ba:¬(j:Int)<((cZ B).length:Int):=af;obtain rfl:j=(cZ B).length:=af;rw[mC,<- HAB.aa]at I;have N:Hid (Fx M (λW=>ar aQ (lY B) y W) wr):=ae ((I.less (Y':=M) λk hk=>.inl hk).fx λk hk=>by have:=HM.aa k hk;have:=L.size;omega);have kF:K w wr:=u2.k L λk hk=>by have:=Y.aa;omega
   have q9:=hb.cell;obtain⟨A9,c9,rfl⟩:=I.slice;clear I Z u u2 hb;go_wp2;go_ret;exact⟨_,rfl,N.aa,kF⟩
theorem jF.settle{l:List bz}(h:jF l)(a:av):jF (fc l a):=by
 unfold fc;split
 ·exact h
 ·exact h.erase _
structure mU(B B':aB):Prop where
 me:B'.me=B.me
 par:B'.par=B.par
 aZ:B'.aZ=B.aZ
 calls:B'.calls=B.calls
 bR:B'.bR=B.bR
 refused:B'.refused=B.refused
 told:B'.told=B.told
 waits:B'.waits=B.waits
 life:B'.st.life=B.st.life
theorem mU.rf(B:aB):mU B B:=⟨rfl,rfl,rfl,rfl,rfl,rfl,rfl,rfl,rfl⟩
theorem mU.tr{A B C:aB}(h:mU A B)(k:mU B C):mU A C:=⟨k.me.trans h.me,k.par.trans h.par,k.aZ.trans h.aZ,k.calls.trans h.calls,k.bR.trans h.bR,k.refused.trans h.refused,k.told.trans h.told,k.waits.trans h.waits,k.life.trans h.life⟩
theorem ah8{s t:bA}{r:Rec}(hk:r.kind≠1)(e:fh s r=some t):t.life=s.life:=by
 unfold fh wO uD uE uH wP at e
 repeat' split at e
 all_goals first|(cases e;done)|(injection e with e;subst e)
 all_goals first|rfl|omega
theorem EU{B:aB}{r:Rec}(hk:r.kind≠1):mU B (dt B r).1:=by
 unfold dt;split
 ·split
  ·exact mU.rf B
  ·rename_i t h;exact⟨rfl,rfl,rfl,rfl,rfl,rfl,rfl,rfl,ah8 hk h⟩
 ·exact mU.rf B
theorem H5{B:aB}(h:bH B){r:Rec}(s:nX r):bH (dt B r).1:=by
 unfold dt;split
 ·rename_i i;simp only[cz]at i;split
  ·exact h
  ·rename_i t j;have u:=h.dk.next i.1 s i.2 j;exact⟨h.tr,h.me,h.hm,u,by
    show jF (if r.kind=2 then fc B.aK (ax r.e)else B.aK);split
    ·exact h.tx.settle _
    ·exact h.tx,h.calls,h.bR,h.told,h.eX,h.waits,h.BK⟩
 ·exact h
theorem OG{n:Nat}{x:aq}(hn:n<18446744073709551616)(i:cK x):nX (lI n x):=⟨Py,hn,i,Py,yX,yX⟩
theorem Uz{k:Int}{a:av}(hk:bU k)(i:df a):nX (jy k a):=⟨hk,yY,E2,i.1,i.2.1,i.2.2⟩
theorem ab7{B:aB}(hG:bH B){x:aq}(i:cK x):bH (mG B x).1:=H5 hG (OG Bf i)
theorem ab8(B:aB)(x:aq):mU B (mG B x).1:=EU (by simp[lI])
theorem aqp{B:aB}(i:bH B){a:av}(j:df a):bH (nB B a).1:=by
 have h:=H5 i (Uz (k:=4) pd j);unfold nB;split
 ·exact⟨h.tr,h.me,h.hm,h.dk,h.tx.settle _,h.calls,h.bR,h.told,h.eX,h.waits,h.BK⟩
 ·exact i
theorem aqq(B:aB)(a:av):mU B (nB B a).1:=by
 have h:=EU (B:=B) (r:=jy 4 a) yY;unfold nB;split
 ·exact⟨h.me,h.par,h.aZ,h.calls,h.bR,h.refused,h.told,h.waits,h.life⟩
 ·exact mU.rf B
section
variable {α β γ:Type} {S:cF α} {S2:cF β} {S3:cF γ} {lo:Nat} {e e2 e3:TypeId} {l l':List α} {l2:List β} {l3:List γ} {v v2 v3:Value} {w w':World}
structure ur(lo:Nat)(e:TypeId)(S:cF α)(l:List α)(v:Value)(e2:TypeId)(S2:cF β)(l2:List β)(v2:Value)(e3:TypeId)(S3:cF γ)(l3:List γ)(v3:Value)(w:World):Prop where
 a:aT (λk=>k<lo∨v2.ownBlock=some k∨v3.ownBlock=some k) lo e S l v w
 b:aT (λk=>k<lo∨v3.ownBlock=some k∨v.ownBlock=some k) lo e2 S2 l2 v2 w
 c:aT (λk=>k<lo∨v.ownBlock=some k∨v2.ownBlock=some k) lo e3 S3 l3 v3 w
 n12:∀k,v.ownBlock=some k->v2.ownBlock=some k->False
 n23:∀k,v2.ownBlock=some k->v3.ownBlock=some k->False
 n31:∀k,v3.ownBlock=some k->v.ownBlock=some k->False
theorem ur.Cz(h:ur lo e S l v e2 S2 l2 v2 e3 S3 l3 v3 w):ur lo e2 S2 l2 v2 e3 S3 l3 v3 e S l v w:=⟨h.b,h.c,h.a,h.n23,h.n31,h.n12⟩
theorem ur.st(h:ur lo e S l v e2 S2 l2 v2 e3 S3 l3 v3 w)(k:K w w'):ur lo e S l v e2 S2 l2 v2 e3 S3 l3 v3 w':=⟨h.a.st k,h.b.st k,h.c.st k,h.n12,h.n23,h.n31⟩
theorem ur.nil(lo:Nat)(e:TypeId)(S:cF α)(s:TypeId)(j:cF β)(t:TypeId)(i:cF γ)(w:World):ur lo e S [] (.slice none 0 0) s j [] (.slice none 0 0) t i [] (.slice none 0 0) w :=
 ⟨aT.nil _ _ _ _ _,aT.nil _ _ _ _ _,aT.nil _ _ _ _ _,λk h=>Dw,λk h=>Dw,λk h=>Dw⟩
theorem ur.box(h:ur lo e S l v e2 S2 l2 v2 e3 S3 l3 v3 w){T:TypeId}{u:Nat}(hb:LM (λk=>k<lo∨v2.ownBlock=some k∨v3.ownBlock=some k) lo T e S l' v u w w')(B:u<lo) :
 ∃s,ai w' u T #[s]/\ur lo e S l' s e2 S2 l2 v2 e3 S3 l3 v3 w'/\ah (λk=>k=u∨v.ownBlock=some k) w w':=by
 obtain⟨s,D,E,t,y⟩:=hb
 have A:=h.b.blk
 have C:=h.c.blk
 refine⟨s,D,⟨E,h.b.to y (λk hk=>?_) (λk j h6=>?_) (λk hk i=>?_),h.c.to y (λk hk=>?_) (λk j h6=>?_) (λk hk i=>?_),λk j h6=>?_,h.n23,λk j h6=>?_⟩,y⟩
 ·rcases hk with rfl|hk
  ·exact .inl B
  ·exact .inr (.inr hk)
 ·rcases h6 with rfl|h6
  ·have:=(A _ j).1;omega
  ·exact h.n12 k h6 j
 ·rcases i with i|i|i
  ·exact .inl (.inl i)
  ·exact .inl (.inr (.inl i))
  ·rcases t k i with i|i
   ·exact .inl (.inr (.inr i))
   ·omega
 ·rcases hk with rfl|hk
  ·exact .inl B
  ·exact .inr (.inl hk)
 ·rcases h6 with rfl|h6
  ·have:=(C _ j).1;omega
  ·exact h.n31 k j h6
 ·rcases i with i|i|i
  ·exact .inl (.inl i)
  ·rcases t k i with i|i
   ·exact .inl (.inr (.inl i))
   ·omega
  ·exact .inl (.inr (.inr i))
 ·rcases t k j with j|j
  ·exact h.n12 k j h6
  ·have:=(A k h6).2;omega
 ·rcases t k h6 with h6|h6
  ·exact h.n31 k j h6
  ·have:=(C k j).2;omega
end
theorem acU(kids:List bK)(a:av):jv kids a=0∨jv kids a=1∨jv kids a=2:=by
 unfold jv;split
 ·simp
 ·split <;> simp
theorem ayb(W:World):(zeroValue 249).run prog W=.ok .nilFunc W:=by kernel_rfl
def LR(lo y t s:Nat)(u os:List aq)(ns:List av)(W:World):Prop :=
 ∃j h i,ai W y 39 #[j]/\ai W t 39 #[h]/\ai W s 32 #[i]/\ur lo 102 aQ u j 102 aQ os h 46 bI ns i W
theorem apu(op:List aq)(kids:List bK)(vo vk:Value)(w:World)(ho:ar aQ op vo w)(hk:ar vE kids vk w)(tG:∀x∈op,eD x)(hlo:op.length<=1000000)(hlk:kids.length<=1000000)(hv:∀m∈kids,m.bM.length<=1000000) :
 Calls prog 114 #[vo,vk] w λe w'=>∃H L v3,e=.returned (.tuple #[H,L,v3])/\Fx (λk=>k<w.heap.size) (λW=>ar aQ (DZ op kids) H W) w'/\Fx (λk=>k<w.heap.size) (λW=>ar bI (Cj op kids) L W) w'/\K w w':=by
 have HY:Hid (DZ op kids=op.filter λx=>decide (jv kids (ax x)=1)):=ae rfl
 have HN:Hid (Cj op kids=(op.filter λx=>decide (jv kids (ax x)=2)).map ax):=ae rfl
 have C1:=ae λW (k:K w W) a=>ab6 kids a vk W (aW hk k) hlk hv
 have HS:=ae tG
 have Yp:=ae λa=>acU kids a
 obtain⟨Ao,co,rfl,hl,-⟩:=ho
 obtain⟨Ak,ck,rfl⟩:=az hk
 generalize DZ op kids=RY at *
 generalize Cj op kids=RN at *
 generalize jv kids=s at *
 have hz2:((w.alloc (.cells #[.slice none 0 0] 39)).alloc (.cells #[.slice none 0 0] 39)).heap.size=w.heap.size+2:=aj
 have hz1:(w.alloc (.cells #[.slice none 0 0] 39)).heap.size=w.heap.size+1:=aj
 have iW:(((w.alloc (.cells #[.slice none 0 0] 39)).alloc (.cells #[.slice none 0 0] 39)).alloc (.cells #[.slice none 0 0] 32)).heap.size=w.heap.size+3:=aj
 have aO:=((ai.new w 39 #[.slice none 0 0]).alloc (.cells #[.slice none 0 0] 39)).alloc (.cells #[.slice none 0 0] 32)
 have hb2:=(ai.new (w.alloc (.cells #[.slice none 0 0] 39)) 39 #[.slice none 0 0]).alloc (.cells #[.slice none 0 0] 32)
 have bD:=ai.new ((w.alloc (.cells #[.slice none 0 0] 39)).alloc (.cells #[.slice none 0 0] 39)) 32 #[.slice none 0 0]
 have B:K w (((w.alloc (.cells #[.slice none 0 0] 39)).alloc (.cells #[.slice none 0 0] 39)).alloc (.cells #[.slice none 0 0] 32)):=(((K.rf w).al _).al _).al _
 rw[hz1]at hb2
 rw[hz2]at bD
 clear hk tG hv hz1 hz2
 go_enter func114,ntmps114
 go_upto_region 3 with (fail)
 generalize World.alloc (World.alloc (World.alloc w _) _) _=E at *
 obtain⟨g,hg⟩:∃g,g=w.heap.size:=⟨_,rfl⟩
 rw[<- hg]at aO hb2 bD iW⊢
 have HG:=ae hg
 clear hg
 have hmm:=Tn (P:=prog) underlying250 E
 rw[iW]at hmm
 have m0:fS encI (E.alloc (.map #[] 0)) (g+3) []:=iW▸fS.new E
 have kA:K E (E.alloc (.map #[] 0)):=(K.rf E).al _
 have KI:=LF (P:=prog) (kt:=3) underlying3
 obtain⟨w4,r4,m4,g4⟩:=Ki KI underlying250 m0 0 (.func (.func 181) #[] #[.pointer (some ⟨g+1,0,none⟩)])
 obtain⟨w5,r5,m5,g5⟩:=Ki KI underlying250 m4 1 (.func (.func 182) #[] #[.pointer (some ⟨g,0,none⟩)])
 obtain⟨A,r6,m6,g6⟩:=Ki KI underlying250 m5 2 (.func (.func 183) #[] #[.pointer (some ⟨g+2,0,none⟩)])
 have Nd:td (td (td ([]:List (Int×Value)) 0 (.func (.func 181) #[] #[.pointer (some ⟨g+1,0,none⟩)])) 1 (.func (.func 182) #[] #[.pointer (some ⟨g,0,none⟩)])) 2 (.func (.func 183) #[] #[.pointer (some ⟨g+2,0,none⟩)])=[(0,.func (.func 181) #[] #[.pointer (some ⟨g+1,0,none⟩)]),(1,.func (.func 182) #[] #[.pointer (some ⟨g,0,none⟩)]),(2,.func (.func 183) #[] #[.pointer (some ⟨g+2,0,none⟩)])]:=by simp[td,jT]
 rw[Nd]at m6
 simp only[encI]at r4 r5 r6
 have Q:ah (λk=>k=g+3) E A:=(ah.bg kA _).tr (((ah.fM (X:=λk=>k=g+3) g4 λk e=>KV).tr (ah.fM (X:=λk=>k=g+3) g5 λk e=>KV)).tr (ah.fM (X:=λk=>k=g+3) g6 λk e=>KV))
 have k6:K w A:=Q.k B λk hk=>PH
 have hsz:g+3<A.heap.size:=m6.lt
 have azg:=aO.bT Q af
 have azh:=hb2.bT Q af
 have azi:=bD.bT Q af
 go_wp2_with fail
 clear r4 r5 r6 hmm m0 m4 m5 g4 g5 g6 aO hb2 bD Q kA B Nd iW
 have hD:LR A.heap.size g (g+1) (g+2) [] [] [] A:=⟨_,_,_,azg,azh,azi,ur.nil _ _ _ _ _ _ _ _⟩
 have uu:ah (λk=>k=g∨k=g+1∨k=g+2) A A:=ah.rf _ _
 go_loopw [12,13,14,22] (fun _ _ _ i W=>∃j:Nat,j<=op.length/\i=.int .i64 (j:Int)/\LR A.heap.size g (g+1) (g+2) ((op.take j).filter fun x=>decide (s (ax x)=1)) ((op.take j).filter fun x=>decide (s (ax x)=0)) (((op.take j).filter fun x=>decide (s (ax x)=2)).map ax) W/\ah (fun k=>k=g∨k=g+1∨k=g+2) A W) (fun _ _ _ i _=>op.length-(intOf i).toNat)
 case atStart=>exact⟨0,af,rfl,O8,uu⟩
 case round =>
  clear hD uu;obtain⟨j,hj,rfl,hD,u⟩:=hrel;by_cases hlt:j<op.length
  ·have ba:(j:Int)<(op.length:Int):=af;obtain⟨b1,o1,cs1,rfl,dH,hrl,d0,d⟩:=dM hl j hlt au;have F0:=ae (JX (λx=>decide (s (ax x)=0)) op j hlt);have F1:=ae (JX (λx=>decide (s (ax x)=1)) op j hlt);have F2:=ae (JX (λx=>decide (s (ax x)=2)) op j hlt);have qG:=HS.aa _ (bW hlt);have jD:=lV (λx=>decide (s (ax x)=1)) (op.take j);have ru:=lV (λx=>decide (s (ax x)=0)) (op.take j);have fg:=lV (λx=>decide (s (ax x)=2)) (op.take j);have RV:(op.take j).length<=1000000:=aU;generalize op[j]=x at *;have eC:=HG.aa;have Z:K w wr:=u.k k6 λk hk=>af
   clear eC;obtain⟨vf,ve,rfl,hf,he⟩:=hrl w (K.rf w);have HE:Hid (∀W,K w W->cR x (.agg (aA x vf ve)) W):=ae λW k=>⟨_,_,rfl,dB _ _ _ _ hf k,aW he k⟩
   have q9:∀i,i<8->wr.cell? ⟨b1,o1+j*8+i,none⟩=(aA x vf ve)[i]?:=λi hi=>(d wr Z i hi).trans Array.getElem?_toList
   have q0:wr.cell? ⟨b1,o1+j*8,none⟩=some (.int .i64 x.kind):=d0 wr Z;have hx:=ai.new wr 102 (aA x vf ve);have B:K wr (wr.alloc (.cells (aA x vf ve) 102)):=(K.rf wr).al _;obtain⟨Af,cf,rfl⟩:=cB hf;obtain⟨Ae,ce,rfl⟩:=az he;clear d d0 hf he hrl dH;go_upto_region 7 with (fail);generalize wr.alloc _=w7 at *;clear q9 q0;have q8:=hx.cell;have nS:=Z.tr B;have u7:=u.tr (ah.bg B _);go_wp2_with fail
   refine (C1.aa w7 nS (ax x)).mono ?_;rintro e F⟨rfl,G⟩;have rP:=nS.tr G;have y:=u7.tr (ah.bg G _);have m8:=m6.bT y af;have rO:=hx.below G hx.lt;clear q8;have q8:=rO.cell;obtain⟨H,L,v3,N,I,J,T⟩:=hD;have RX:=N.below (B.tr G) N.lt;have RZ:=I.below (B.tr G) I.lt;have R3:=J.below (B.tr G) J.lt;have T8:=T.st (B.tr G);have pI:=y.size;have M:=ae λn=>(Ig (LF (P:=prog) (kt:=3) underlying3) underlying250 (ayb F) m8 n).1
   have QD:=T8.a.blk;have QE:=T8.b.blk;have LS:=T8.c.blk;clear N I J T;rcases Yp.aa (ax x)with h|h|h
   ·have ql:=M.aa 0;simp only[qV,jT,encI]at ql;simp at ql;rw[h];have Y:Hid ((op.take (j+1)).filter (λx=>decide (s (ax x)=0))=(op.take j).filter (λx=>decide (s (ax x)=0))++[x]):=ae Wx;have Ng:Hid ((op.take (j+1)).filter (λx=>decide (s (ax x)=1))=(op.take j).filter (λx=>decide (s (ax x)=1))):=ae Wy;have O:Hid (((op.take (j+1)).filter (λx=>decide (s (ax x)=2))).map ax=((op.take j).filter (λx=>decide (s (ax x)=2))).map ax):=ae Wz;have CC:=ae (arG _ _ _ _ (g+1) x _ F (HE.aa F rP) qG RZ T8.Cz.a (λk hk=>by rcases hk with hk|hk|hk;omega;have:=LS k hk;omega;have:=QD k hk;omega) (.inl af) pI af af);clear h M;go_wp2_with fail
    refine CC.aa.mono ?_;rintro e D⟨rfl,hB⟩;obtain⟨R,B9,T9,t⟩:=T8.Cz.box hB af;have N1:=RX.bT t ah9;have N3:=R3.bT t ah9;have R4:LR A.heap.size g (g+1) (g+2) ((op.take (j+1)).filter λx=>decide (s (ax x)=1)) ((op.take (j+1)).filter λx=>decide (s (ax x)=0)) (((op.take (j+1)).filter λx=>decide (s (ax x)=2)).map ax) D:=by rw[Y.aa,Ng.aa,O.aa];have TT:=T9.Cz.Cz;exact⟨H,R,v3,N1,B9,N3,TT⟩
    have EG:ah (λk=>k=g∨k=g+1∨k=g+2) A D:=⟨t.os.trans y.os,t.tape.trans y.tape,t.output.trans y.output,bq y.size t.size,λk C S=>(t.block k (bB C y.size) (by rintro (hk|hk);omega;have:=(QE k hk).1;omega)).trans (y.block k C S)⟩;exact WA
   ·have ql:=M.aa 1;simp only[qV,jT,encI]at ql;simp at ql;rw[h];have Y:Hid ((op.take (j+1)).filter (λx=>decide (s (ax x)=0))=(op.take j).filter (λx=>decide (s (ax x)=0))):=ae Wx;have Ng:Hid ((op.take (j+1)).filter (λx=>decide (s (ax x)=1))=(op.take j).filter (λx=>decide (s (ax x)=1))++[x]):=ae Wy;have O:Hid (((op.take (j+1)).filter (λx=>decide (s (ax x)=2))).map ax=((op.take j).filter (λx=>decide (s (ax x)=2))).map ax):=ae Wz;have CC:=ae (arH _ _ _ _ g x _ F (HE.aa F rP) qG RX T8.a (λk hk=>by rcases hk with hk|hk|hk;omega;have:=QE k hk;omega;have:=LS k hk;omega) (.inl af) pI af af);clear h M;go_wp2_with fail
    refine CC.aa.mono ?_;rintro e D⟨rfl,hB⟩;obtain⟨R,B9,T9,t⟩:=T8.box hB af;have N2:=RZ.bT t aia;have N3:=R3.bT t aia;have R4:LR A.heap.size g (g+1) (g+2) ((op.take (j+1)).filter λx=>decide (s (ax x)=1)) ((op.take (j+1)).filter λx=>decide (s (ax x)=0)) (((op.take (j+1)).filter λx=>decide (s (ax x)=2)).map ax) D:=by rw[Y.aa,Ng.aa,O.aa];have TT:=T9;exact⟨R,L,v3,B9,N2,N3,TT⟩
    have EG:ah (λk=>k=g∨k=g+1∨k=g+2) A D:=⟨t.os.trans y.os,t.tape.trans y.tape,t.output.trans y.output,bq y.size t.size,λk C S=>(t.block k (bB C y.size) (by rintro (hk|hk);omega;have:=(QD k hk).1;omega)).trans (y.block k C S)⟩;exact WA
   ·have ql:=M.aa 2;simp only[qV,jT,encI]at ql;simp at ql;rw[h];have Y:Hid ((op.take (j+1)).filter (λx=>decide (s (ax x)=0))=(op.take j).filter (λx=>decide (s (ax x)=0))):=ae Wx;have Ng:Hid ((op.take (j+1)).filter (λx=>decide (s (ax x)=1))=(op.take j).filter (λx=>decide (s (ax x)=1))):=ae Wy;have O:Hid (((op.take (j+1)).filter (λx=>decide (s (ax x)=2))).map ax=((op.take j).filter (λx=>decide (s (ax x)=2))).map ax++[ax x]):=ae Wz;have CC:=ae (arI _ _ _ _ (g+2) x _ F (HE.aa F rP) R3 T8.Cz.Cz.a (.inl af) pI af (by rw[List.length_map];omega));clear h M;go_wp2_with fail
    refine CC.aa.mono ?_;rintro e D⟨rfl,hB⟩;obtain⟨R,B9,T9,t⟩:=T8.Cz.Cz.box hB af;have N1:=RX.bT t aib;have N2:=RZ.bT t aib;have R4:LR A.heap.size g (g+1) (g+2) ((op.take (j+1)).filter λx=>decide (s (ax x)=1)) ((op.take (j+1)).filter λx=>decide (s (ax x)=0)) (((op.take (j+1)).filter λx=>decide (s (ax x)=2)).map ax) D:=by rw[Y.aa,Ng.aa,O.aa];have TT:=T9.Cz;exact⟨H,L,R,N1,N2,B9,TT⟩
    have EG:ah (λk=>k=g∨k=g+1∨k=g+2) A D:=⟨t.os.trans y.os,t.tape.trans y.tape,t.output.trans y.output,bq y.size t.size,λk C S=>(t.block k (bB C y.size) (by rintro (hk|hk);omega;have:=(LS k hk).1;omega)).trans (y.block k C S)⟩;exact WA
  ·have ba:¬(j:Int)<(op.length:Int):=af;obtain rfl:j=op.length:=af;rw[mC,<- HY.aa,<- HN.aa]at hD;obtain⟨H,L,v3,N,I,J,T⟩:=hD;have eC:=HG.aa;have Z:K w wr:=u.k k6 λk hk=>af
   clear eC;have q1:=N.cells;have q2:=I.cells;have q3:=J.cells;have lP:=k6.size;have X1:=ae ((T.a.less (Y':=λk=>k<w.heap.size) λk hk=>.inl af).fx λk hk=>af);have X3:=ae ((T.c.less (Y':=λk=>k<w.heap.size) λk hk=>.inl af).fx λk hk=>af);obtain⟨A1,c1,rfl⟩:=T.a.slice;obtain⟨A2,c2,rfl⟩:=T.b.slice;obtain⟨A3,c3,rfl⟩:=T.c.slice;clear N I J T;go_upto_region 11 with (fail);refine eM 6 [([],[]),([],[]),([],[]),([0],[(40,0)]),([1],[(41,1)]),([2],[(42,2)])] 43 rfl ak ak ak ak au ?_;simp only[dR,dN,ew,dP];iterate 6 (apply aV.is;intro V W U hp;(try simp only[aI,aJ,aM,aE,aF,ag]at hp);simp[aL,aw,List.lookup,hp,aS,execOp,ay,ag,aN,U,q1,q2,q3,go_sem];rfl)
   intro V W U hA;simp only[aJ,aM,eA,ag,Nat.reduceAdd]at hA;refine bu.nil ?_;simp only[bF,Act.put,cO,cM,cL,Nat.reduceAdd,hA];have kF:=Z.tr U;have Y1:=ae (X1.aa.k U);have Y3:=ae (X3.aa.k U);clear hA q1 q2 q3 X1 X3;go_wp2;go_ret3;exact⟨_,_,⟨_,rfl⟩,Y1.aa,Y3.aa,kF⟩
