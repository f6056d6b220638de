/-
  The walk of the closure of broker's obey (layer 20). Conditions: none.
-/
import Derived.Test.YtoeiinllelipoaaGreatMa24
import Derived.Test.YtoeiinllelipoaaGreatMz
set_option maxRecDepth 100000
set_option maxHeartbeats 16000000
set_option linter.unusedVariables false
set_option linter.unusedSimpArgs false
namespace Go.Proofs.YtoeiinllelipoaaGreat
open Go Go.RowKit Tryz
theorem aa0{M:Nat->Prop}{p:cV}{B:aB}{w:World}(h:bC M p B w)(hG:bH B)(a:av)(fa:df a)(T X:Nat)(hb:ai w T 29 #[.pointer (some ⟨p.g,0,none⟩)])(hn:ai w X 188 #[.func (.func 118) #[.pointer (some ⟨p.g,0,none⟩)] #[]]) :
 Calls prog 119 #[cN a,.pointer (some ⟨T,0,none⟩),.pointer (some ⟨X,0,none⟩)] w λe w'=>e=.returned (.tuple #[])/\cW M p (ji B a) w w':=by
 have O:Hid (ji B a=if cA B.st.prom a then (dt B (jy 5 a)).1 else B):=ae rfl
 have N:∀k,bn p k->k<w.heap.size:=λk hk=>h.low k (h.sub k hk)
 have s:K w (w.alloc (.cells (bZ a) 46)):=(K.rf w).al _
 have A:=ai.new w 46 (bZ a)
 have I:=hb.below s hb.lt
 have G:=hn.below s hn.lt
 have H:=ae h
 have xa:=ae N
 have u:=ae λW (k:K w W)=>JR B.st a (.agg (bS B.st p.vl p.vq p.va)) W ⟨_,_,_,rfl,(h.bL.at k).list,(h.bL.at k).prom,(h.bL.at k).ab⟩ Bf
 have L:∀W,qh (jy 5 a) (.agg (eH (jy 5 a) (.slice none 0 0) (.slice none 0 0))) W:=λW=>⟨_,_,rfl,⟨none,0,rfl,Reads.nil _ _ _ _⟩,iu _ _⟩
 have t:=ae λW (k:K w W)=>JW (h.st k) hG (jy 5 a) _ (L W) (Uz pd fa) ⟨by simp[jy,eW],by simp[jy,eW],by simp[jy,eW]⟩
 have Y:=az h.bL.now.list
 have S:=az h.bL.now.prom
 have U:=az h.bL.now.ab
 have q:=h.q
 generalize ji B a=R at *
 obtain⟨g,gl,gd,gr,gt,vd,vr,vp,vh,vl,vq,va,vt,vf,vw,kr⟩:=p
 simp only at q u t Y S U I G
 obtain⟨Al,cl,rfl⟩:=Y
 obtain⟨Ap,cp,rfl⟩:=S
 obtain⟨Aa,ca,rfl⟩:=U
 clear h hG hb hn N L
 go_enter func119,ntmps119
 go_upto_region 1 with (fail)
 generalize w.alloc _=w1 at *
 generalize w.heap.size=ga at A⊢
 have y:=A.cells
 have C:=I.cells
 have F:=λW (k:K w1 W)=>q W (s.tr k)
 clear q
 refine eM 6 [([],[]),([0],[(4,0)]),([1],[(5,1)]),([2],[(6,2)]),([],[]),([3,4],[(7,3),(8,4)])] 14 rfl ak ak ak ak au ?_
 simp only[dR,dN,ew,dP]
 iterate 5 (apply aV.is;intro V W j i;(try simp only[aI,aJ,aM,aE,aF,ag]at i);simp[aL,aw,List.lookup,i,aS,execOp,ay,ag,aN,j,F,y,C,go_sem];rfl)
 refine aV.is (.bool (cA B.st.prom a)) (λV W j i=>?_) ?_
 ·(try simp only[aI,aJ,aM,aE,aF,ag]at i)
  simp[aL,aw,List.lookup,i,aS,execOp,ay,ag,F,y,C,go_sem];refine (u.aa W (s.tr j)).mono ?_;exact sW
 intro V W j E
 simp only[aJ,aM,eA,ag,Nat.reduceAdd]at E
 refine bu.nil ?_
 simp only[bF,Act.put,cO,cM,cL,Nat.reduceAdd,E]
 have D:=s.tr j
 have Z:=y W j
 have qn2:=G.cells W j
 clear E F y C A I G
 generalize W=w2 at *
 cases i:cA B.st.prom a
 ·have HF:Hid (R=B):=ae (by rw[O.aa,i];rfl);have HN:=ae (H.aa.n D);clear i u t;go_wp2;go_end0;exact WD
 ·have HF:Hid (R=(dt B (jy 5 a)).1):=ae (by rw[O.aa,i];rfl);have Q:=ae (t.aa w2 D);clear i u t;go_wp2_with fail
  refine Q.aa.mono ?_;rintro e w3⟨rfl,J⟩;have HN:=ae (J.xe D xa.aa);clear Q J Z qn2;go_wp2;go_end0;exact WD
theorem adD{α:Type}[DecidableEq α]{k:α}:∀ {aY:List (α×Value)} {i:Nat},(∀p∈aY,p.1≠k)->jT k aY i=none
 | [],_,_=>rfl
 | p :: r,i,h=>by unfold jT;have s:=h p aj;simp only[s,if_false];exact adD λq j=>h q (by simp[j])
theorem arP{l:List av}{a:av}(h:dx l a=false):td (og l) a (.int .i64 (l.length:Int))=og (l++[a]):=by
 have hn:∀p∈og l,p.1≠a:=by
  intro p i e;unfold og at i;obtain⟨q,j,rfl⟩:=List.mem_map.1 i;have:=List.fst_mem_of_mem_zipIdx j;simp only at e;rw[e]at this;have s:dx l a=true:=by unfold dx;simp[this]
  rw[s]at h;cases h
 unfold td;rw[adD hn];simp[og,List.zipIdx_append]
theorem bC.tell{M:Nat->Prop}{p:cV}{B:aB}{w w':World}(h:bC M p B w){a:av}(hm:fS km w' p.gt (og (B.told++[a])))(hg:w.grownBy w' (some p.gt)):bC M p { B with told:=B.told++[a] } w':=by
 obtain⟨A,y,C,D,t⟩:=h.apart;have u:ah (λk=>k=p.gt) w w':=ah.fM hg λk e=>PJ
 have s:ah M w w':=u.more λk hk=>h.sub k (hk ▸ .inr (.inr (.inl rfl)))
 refine⟨h.blk.bT u y,h.lg.bT u λk hk e=>t (e▸hk),h.rep.bT u h.ne,hm,λW j=>?_,h.sub,λk hk=>bB (h.low k hk) u.size,h.ne⟩;have i:=h.bL W (s.tr j);exact⟨i.par,i.aZ,i.list,i.prom,i.ab,i.aK,i.eX,i.waits,i.bR⟩
theorem au4{M:Nat->Prop}{p:cV}{B:aB}{w:World}(h:bC M p B w){a:av}(t:dx B.told a=false) :
 ∃w',(Instr.mapUpdate 93 (.map (some p.gt)) (.agg (bZ a)) (.int .i64 (B.told.length:Int))).run prog w=.ok () w'/\bC M p { B with told:=B.told++[a] } w'/\ah (λk=>k=p.gt) w w':=by
 obtain⟨w',s,i,j⟩:=Ki Qs underlying93 h.vA a (.int .i64 (B.told.length:Int))
 rw[arP t]at i
 exact⟨w',s,h.tell i j,ah.fM j λk e=>PJ⟩
theorem fS.len{α:Type}{enc:α->Value}{P:Program}{w:World}{b:Nat}{i:List (α×Value)}(h:fS enc w b i){t ty k e:TypeId}(j:P.underlying t=some (.map k e)):(Builtin.len_ #[t] ty #[.map (some b)]).run P w=.ok (.int .i64 (i.length:Int)) w:=by
 obtain⟨es,c,s,u,-⟩:=h;have y:P.underlying t=some (.map (P.mapKeyOf t) (P.mapElemOf t)):=by unfold Program.mapKeyOf Program.mapElemOf;rw[j]
 have:=congrArg List.length u;simp only[List.length_map,Array.length_toList]at this;rw[run_len_map w t ty b es c y s,this];rfl
theorem bC.awo{M:Nat->Prop}{p:cV}{B:aB}{w:World}(h:bC M p B w):∀W,K w W->∀ty,(Builtin.len_ #[93] ty #[.map (some p.gt)]).run prog W=.ok (.int .i64 (B.told.length:Int)) W:=λW k ty=>by have:=(h.vA.st k).len (ty:=ty) underlying93;rw[this];simp[og]
@[local go_sem] theorem aCZ {P:Program} {w:World} (a:Addr) (m:Mode) (f:Fn) (bs cs:Array Value):(store a (.func f bs cs) m).run P w=stored P w a (.func f bs cs) m:=run_store P w a _ m rfl
theorem ait:∀(x:av) (cs:List Value) (W:World),bI.rel x cs W->cs[0]?≠some (.bool true):=λx cs W h=>by have:cs=dL x:=h;rw[this];simp
theorem arQ{B:aB}{n j:Nat}{l:List aq}(h:j<l.length):kT B ((n+j)%18446744073709551616) (l.drop j)=if (n+j)%18446744073709551616=B.st.list.length then (if (dt B (lI ((n+j)%18446744073709551616) l[j])).2 then kT (dt B (lI ((n+j)%18446744073709551616) l[j])).1 ((n+(j+1))%18446744073709551616) (l.drop (j+1))else B)else kT B ((n+(j+1))%18446744073709551616) (l.drop (j+1)):=by
 have e:((n+j)%18446744073709551616+1)%18446744073709551616=(n+(j+1))%18446744073709551616:=af;rw[List.drop_eq_getElem_cons h];conv=>lhs;unfold kT
 rw[e]
theorem ajI(n:Nat):IntKind.u64.wrap (n:Int)=((n%18446744073709551616:Nat):Int):=by simp[IntKind.wrap,IntKind.signed,IntKind.bits]
theorem PK{m:bK}(h:ed m=true)(B:oQ m):(∀x∈m.entries,bP x=true/\cK x)/\m.entries.length<=16/\(∀x∈m.cH,bP x=true/\cK x)/\m.cH.length<=16/\(∀a∈m.bY,df a)/\m.bY.length<=16/\(∀a∈m.ends,df a)/\m.ends.length<=16/\m.got<18446744073709551616:=by simp only[ed,ki,cz,decide_eq_true_eq,pU]at h;obtain⟨⟨⟨⟨⟨⟨-,-⟩,-⟩,j,y⟩,D,t⟩,c1,-⟩,d1,-⟩:=h;obtain⟨-,E,-,-,u,C,s,A⟩:=B;exact⟨λx i=>⟨y x i,u x i⟩,j,λx i=>⟨t x i,C x i⟩,D,s,c1,A,d1,E⟩
theorem Og:∀ {l:List aq} {B:aB} {n:Nat},bH B->n<18446744073709551616->(∀x∈l,cK x)->bH (kT B n l)
 | [],B,n,h,_,_=>h
 | x :: l,B,n,h,hn,hl=>by
  unfold kT;have i:=H5 h (OG hn (hl x aj));have hm:(n+1)%18446744073709551616<18446744073709551616:=Nat.mod_lt _ au;split
  ·split
   ·exact Og i hm λy hy=>hl y Bd
   ·exact h
  ·exact Og h hm λy hy=>hl y Bd
theorem NZ{B:aB}{a:av}(h:bH B)(i:df a):bH (ji B a)/\(ji B a).told=B.told:=by
 unfold ji;split
 ·exact⟨H5 h (Uz pd i),(EU yY).told⟩
 ·exact⟨h,rfl⟩
theorem TM{B:aB}{a:av}(h:bH B)(hl:B.told.length+1<=1000000):bH { B with told:=B.told++[a],aK:=fc B.aK a } :=
 ⟨h.tr,h.me,h.hm,h.dk,h.tx.settle _,h.calls,h.bR,Iy,h.eX,h.waits,h.BK⟩
theorem Oh:∀ {l:List aq} {B:aB} {n:Nat},(kT B n l).told=B.told
 | [],B,n=>rfl
 | x :: l,B,n=>by
  unfold kT;split
  ·split
   ·exact Oh.trans (EU yX).told
   ·rfl
  ·exact Oh
theorem aqs{M:Nat->Prop}{p:cV}{B:aB}{w:World}(h:bC M p B w)(hG:bH B)(m:bK)(v1 v2 v3 v4 v5 v6:Value)(h1:ar jW m.bM v1 w)(h2:ar aQ m.asks v2 w)(h3:Fx M (λW=>ar aQ m.entries v3 W) w)(h4:Fx M (λW=>ar aQ m.cH v4 W) w)(h5:Fx M (λW=>ar bI m.bY v5 W) w)(h6:Fx M (λW=>ar bI m.ends v6 W) w)
 (hok:ed m=true) (hfit:oQ m) (gA:B.told.length+m.bY.length<=1000000) :
 Calls prog 58 #[.pointer (some ⟨p.g,0,none⟩),.agg (fH m v1 v2 v3 v4 v5 v6)] w λe w'=>e=.returned (.tuple #[])/\cW M p (qU B m) w w':=by
 have HR:Hid (qU B m=sZ (m.ends.foldl ji (m.bY.foldl mT (kT B m.got m.entries))) m.cH):=ae rfl
 have HL3:=ae (Fx.fix h3 au P8)
 have pL:=ae (Fx.fix h5 au ait)
 have Sd:=ae (Fx.fix h6 au ait)
 have H4:=ae h4
 have H:=ae h
 have HG:=ae hG
 have hlo:∀k,bn p k->k<w.heap.size:=λk hk=>h.low k (h.sub k hk)
 have xa:=ae hlo
 have iZ:=ae hok
 have HTL:=ae gA
 have xT:=ae hfit
 have hs4:=az h4.now
 obtain⟨A1,c1,rfl⟩:=az h1
 obtain⟨A2,c2,rfl⟩:=az h2
 obtain⟨A3,c3,rfl⟩:=az h3.now
 obtain⟨A4,c4,rfl⟩:=hs4
 obtain⟨A5,c5,rfl⟩:=az h5.now
 obtain⟨A6,c6,rfl⟩:=az h6.now
 generalize qU B m=R at *
 obtain⟨g,hg⟩:∃g,Hid (g=p.g):=⟨_,ae rfl⟩
 rw[<- hg.aa]
 generalize ZU:fH m (.slice A1 m.bM.length c1) (.slice A2 m.asks.length c2) (.slice A3 m.entries.length c3) (.slice A4 m.cH.length c4) (.slice A5 m.bY.length c5) (.slice A6 m.ends.length c6)=ma at *
 have k1:K w ((w.alloc (.cells #[.pointer (some ⟨g,0,none⟩)] 29)).alloc (.cells ma 41)):=((K.rf w).al _).al _
 have hb:=(ai.new w 29 #[.pointer (some ⟨g,0,none⟩)]).alloc (.cells ma 41)
 have hc:=ai.new (w.alloc (.cells #[.pointer (some ⟨g,0,none⟩)] 29)) 41 ma
 have hz1:(w.alloc (.cells #[.pointer (some ⟨g,0,none⟩)] 29)).heap.size=w.heap.size+1:=aj
 rw[hz1]at hc
 subst ZU
 clear h hG hlo hok hfit gA h1 h2 h3 h4 h5 h6 hz1
 go_enter func58,ntmps58
 go_upto_region 1 with (fail)
 generalize World.alloc (World.alloc w _) _=w1 at *
 generalize kL:w.heap.size=lo at hb hc⊢
 have lQ:=ae kL
 clear kL
 have J:=hb.cells
 have qc:=hc.cells
 have xg:=J w1 (K.rf _)
 have hd:=ai.new w1 188 #[.func (.func 118) #[.pointer (some ⟨g,0,none⟩)] #[]]
 go_step3
 go_wp2_with fail
 have k2:K w1 (w1.alloc (.cells #[.func (.func 118) #[.pointer (some ⟨g,0,none⟩)] #[]] 188)):=(K.rf w1).al _
 have hb2:=hb.below k2 hb.lt
 have gq:=hc.below k2 hc.lt
 have hz1:=hc.lt
 generalize World.alloc w1 _=F at *
 generalize hgd:w1.heap.size=gd at hd hz1⊢
 have Sg:=ae hgd
 have bw:=k1.tr k2
 have hnX:∀k,lo<=k->¬bn p k:=λk hk N=>by have:=xa.aa k N;have:=lQ.aa;omega
 have I:=ae hnX
 have sH:=H.aa.st bw
 have zH:Hid (∀W,ah (bn p) F W->ah M w W):=ae λW u=>(ah.bg bw M).tr (u.more λk hk=>H.aa.sub k hk)
 have qc2:=gq.cells F (K.rf _)
 clear hgd J qc xg hb hc hnX
 go_step3
 go_upto_block 0 with (fail)
 clear qc2
 obtain⟨uB,uC,JH,Nn,qu,tl,Jv,Gw,LW⟩:=PK iZ.aa xT.aa
 have JI:=ae (Og HG.aa LW λx N=>(uB x N).2)
 obtain⟨L,hBE⟩:∃L,Hid (L=kT B m.got m.entries):=⟨_,ae rfl⟩
 rw[<- hBE.aa]at HR JI
 have Gh:=ae uB
 have Ev:=ae JH
 have GY:=ae qu
 have ye:=ae Jv
 clear uB JH qu Jv
 have Ef:=sH.now rfl (λk hk=>.inl hk) (ah.rf _ F)
 go_cut [5,6,7]from 18 to 43 (fun _ _ _ W=>cW M p L F W)
 case first =>
  go_wp2_with fail
  go_loopw [5,6,7,18] (fun _ _ _ i W=>∃(j:Nat) (s:aB),j<=m.entries.length/\i=.int .i64 (j:Int)/\cW M p s F W/\bH s/\L=kT s ((m.got+j)%18446744073709551616) (m.entries.drop j)) (fun _ _ _ i _=>m.entries.length-(intOf i).toNat)
  case atStart=>exact⟨0,B,af,rfl,Ef,HG.aa,by rw[hBE.aa,dP,Nat.add_zero,Nat.mod_eq_of_lt LW]⟩
  case round =>
   clear Ef;obtain⟨j,s,hj,rfl,hN,A,yK⟩:=hrel;obtain⟨p2,E,t,C,D⟩:=hN;have S:p2.g=g:=(yA C).trans hg.aa.symm;by_cases hlt:j<m.entries.length
   ·have ba:(j:Int)<(m.entries.length:Int):=af;obtain⟨b1,o1,c1',cs1,O,dK,dH,hF,hcell⟩:=HL3.aa.at j hlt au;injection O with O _ gX;subst O gX;have HST:=ae (yK.trans (arQ hlt));have T:=Gh.aa _ (bW hlt);have hj6:=bB hlt uC;generalize m.entries[j]=x at *;have hcw:=hcell wr (zH.aa wr t);obtain⟨vf,ve,rfl,hf,he⟩:=hF wr (zH.aa wr t);have Z:∀i,i<8->wr.cell? ⟨b1,o1+j*8+i,none⟩=(aA x vf ve)[i]?:=λi hi=>(hcw i hi).trans Array.getElem?_toList
    have q0:wr.cell? ⟨b1,o1+j*8,none⟩=some (.int .i64 x.kind):=Z 0 au;obtain⟨Af,cf,rfl⟩:=cB hf;obtain⟨Ae,ce,rfl⟩:=az he;have N:=ai.new wr 102 (aA x (.slice Af x.f.length cf) (.slice Ae x.es.length ce));have k3:K wr (wr.alloc (.cells (aA x (.slice Af x.f.length cf) (.slice Ae x.es.length ce)) 102)):=(K.rf wr).al _;have yD:∀n W,K wr W->qh (lI n x) (.agg (eH (lI n x) (.slice Af x.f.length cf) (.slice Ae x.es.length ce))) W:=λn W k=>⟨_,_,rfl,dB _ _ _ _ hf k,aW he k⟩
    have Cg:=ae yD;clear hcw hcell hF dH dK hf he yD yK;go_upto_region 5 with (fail);have G:=E.st k3;have y:ah (bn p) F (wr.alloc (.cells (aA x (.slice Af x.f.length cf) (.slice Ae x.es.length ce)) 102)):=t.tr (ah.bg k3 _);generalize World.alloc wr _=w3 at *;generalize sJ:wr.heap.size=gx at *;clear sJ Z q0;have Q:=hb2.bT y (I.aa lo (aG _));have U:=gq.bT y (I.aa (lo+1) af);have hd3:=hd.bT y (I.aa gd WH);have J:=Q.cell;have qc:=U.cell;have qd:=hd3.cell;have Y:=N.cell;have hlen:=A.dk.len;have Ej:IntKind.u64.wrap (j:Int)=(j:Int):=aiu;have hw2:IntKind.u64.wrap ((m.got:Int)+(j:Int))=(((m.got+j)%18446744073709551616:Nat):Int):=by rw[<- Int.natCast_add,ajI]
    generalize hn:(m.got+j)%18446744073709551616=n at *;have F5:n<18446744073709551616:=by rw[<- hn];exact Nat.mod_lt _ (by decide)
    have hw3:IntKind.u64.wrap (s.st.list.length:Int)=(s.st.list.length:Int):=aiu;have HV:=ae E;have Nq:=ae G;have Qf:=ae λ(e:n=s.st.list.length) W (k:K w3 W)=>JW (G.st k) A (lI n x) _ (Cg.aa n W (k3.tr k)) (OG F5 T.2) (tK T.1)
    have qB:=G.blk.cell;obtain⟨Al,cl,el⟩:=az G.bL.now.list;have azo:=T.2;have HN3:=ae (show cW M p s F w3 from ⟨p2,G,y,C,D⟩);have HKEY:=ae C;clear hn t E G sH T N;obtain⟨g',gl,gd',gr,gt,vd,vr,vp,vh,vl,vq,va,vt,iO,vw,kr⟩:=p2;simp only at S qB el Qf HKEY;subst S;subst el;have HG2:=ae (H5 A (OG F5 azo));have nP:Hid ((dt s (lI n x)).2=false->(dt s (lI n x)).1=s):=ae acW;by_cases hnl:n=s.st.list.length
    ·have HC:=ae (Qf.aa hnl w3 (K.rf _));have FQ:Hid (L=if (dt s (lI n x)).2 then kT (dt s (lI n x)).1 ((m.got+(j+1))%18446744073709551616) (m.entries.drop (j+1))else s):=ae (HST.aa.trans (if_pos hnl));have HNN:=ae hnl;clear Qf HST Cg HV Nq;generalize dt s (lI n x)=NB at *;obtain⟨N1,N2⟩:=NB;simp only at HC FQ HG2 nP;go_wp2_with fail
     rw[HNN.aa]at HC;refine HC.aa.mono ?_;rintro e w4⟨rfl,EH⟩;have EI:=ae (cW.tr y HKEY.aa D (λ_ h=>.inl h) EH);clear HC EH J qc qd Y qB;cases N2
     ·have e1:=nP.aa rfl;subst e1;have HF:Hid (L=N1):=ae (by rw[FQ.aa];rfl);clear FQ nP;go_wp2;go_meet;rw[HF.aa];exact EI.aa
     ·have HF:Hid (L=kT N1 ((m.got+(j+1))%18446744073709551616) (m.entries.drop (j+1))):=ae (by rw[FQ.aa];rfl);clear FQ nP;go_wp2;go_roundw
      case rel=>exact⟨j+1,N1,af,bO,EI.aa,HG2.aa,HF.aa⟩
      case measure=>simp[intOf];omega
    ·have FQ:Hid (L=kT s ((m.got+(j+1))%18446744073709551616) (m.entries.drop (j+1))):=ae (HST.aa.trans (if_neg hnl));clear Qf HST Cg HV Nq;go_wp2;go_roundw
     case rel=>exact⟨j+1,s,af,bO,HN3.aa,A,FQ.aa⟩
     case measure=>simp[intOf];omega
   ·obtain rfl:j=m.entries.length:=af;have ba:¬(m.entries.length:Int)<(m.entries.length:Int):=af;have HF:Hid (L=s):=ae WI;have EI:=ae (show cW M p s F wr from ⟨p2,E,t,C,D⟩);clear yK E t C D sH;go_wp2;go_meet;rw[HF.aa];exact EI.aa
 clear Ef sH
 generalize wc=w3 at *
 have HTB:Hid (L.told.length+m.bY.length<=1000000):=ae (by rw[hBE.aa,Oh];exact HTL.aa)
 obtain⟨BA,hBA⟩:∃BA,Hid (BA=m.bY.foldl mT L):=⟨_,ae rfl⟩
 rw[<- hBA.aa]at HR
 have hN3:=ae hcut
 obtain⟨_,_,y,_⟩:=hcut
 have U:=gq.bT y (I.aa (lo+1) af)
 have qc:=U.cell
 clear y U Gh LW
 go_upto_block 2 with (fail)
 clear qc
 go_wp2_with fail
 go_loopw [10,48] (fun _ i W=>∃(j:Nat) (s:aB),j<=m.bY.length/\i=.int .i64 (j:Int)/\cW M p s F W/\bH s/\s.told.length<=L.told.length+j/\BA=(m.bY.drop j).foldl mT s) (fun _ i _=>m.bY.length-(intOf i).toNat)
 case atStart=>exact⟨0,L,af,rfl,hN3.aa,JI.aa,af,by rw[hBA.aa,dP]⟩
 case round =>
  obtain⟨j,s,hj,rfl,hN,A,htj,yK⟩:=hrel;obtain⟨p2,E,t,C,D⟩:=hN;have S:p2.g=g:=(yA C).trans hg.aa.symm;by_cases hlt:j<m.bY.length
  ·have ba:(j:Int)<(m.bY.length:Int):=af;obtain⟨b1,o1,c1',cs1,O,dK,dH,hF,hcell⟩:=pL.aa.at j hlt au;injection O with O _ gX;subst O gX;have HST:Hid (BA=(m.bY.drop (j+1)).foldl mT (mT s m.bY[j])):=ae aiv;have T:=GY.aa _ (bW hlt);have gA:s.told.length+1<=1000000:=by have:=HTB.aa;omega
   generalize m.bY[j]=a at *;have hcw:=hcell wr (zH.aa wr t);have hcs:cs1=dL a:=hF wr (zH.aa wr t);have Z:∀i,i<3->wr.cell? ⟨b1,o1+j*3+i,none⟩=(bZ a)[i]?:=λi hi=>(hcw i hi).trans (by rw[hcs];exact Array.getElem?_toList)
   have q0:wr.cell? ⟨b1,o1+j*3,none⟩=some (.int .i64 a.1):=Z 0 au;have N:=ai.new wr 46 (bZ a);have k3:K wr (wr.alloc (.cells (bZ a) 46)):=(K.rf wr).al _;clear hcw hcell hF dH dK hcs yK;go_upto_region 13 with (fail);have G:=E.st k3;have y:ah (bn p) F (wr.alloc (.cells (bZ a) 46)):=t.tr (ah.bg k3 _);have hpx:∀k,bn p2 k->k<wr.heap.size:=λk hk=>E.low k (.inr hk)
   have wJ:∀ {k},k=lo∨k=gd∨k=wr.heap.size->¬bn p2 k:=λ{k} e hk=>by
    have h1:=hb2.lt;have h2:=hd.lt;have h3:=Sg.aa;have h4:=hpx k hk;rcases D k hk with h|h
    ·rcases e with e|e|e
     ·exact I.aa k af h
     ·exact I.aa k af h
     ·omega
    ·omega
   generalize World.alloc wr _=w3 at *;generalize sJ:wr.heap.size=gx at *;clear sJ Z q0;have Q:=hb2.bT y (I.aa lo (aG _));have hd3:=hd.bT y (I.aa gd WH);have J:=Q.cell;have Y:=N.cell;have HN3:=ae (show cW M p s F w3 from ⟨p2,G,y,C,D⟩);have HKEY:=ae C;have Nq:=ae G;have C3:=Tb G A a;have Sh:=ae (NZ (TM (a:=a) A gA) T);have azp:=ae gA;have HX1:=ae T;have HOA:Hid (mT s a=if sS s a then s else ji { s with told:=s.told++[a],aK:=fc s.aK a } a):=ae rfl;rw[S]at C3;generalize mT s a=BO at *;clear E G;go_wp2_with fail
   refine C3.mono ?_;rintro e w4⟨rfl,k4⟩;clear C3;cases hab:sS s a
   ·have Gr:Hid (BO=ji { s with told:=s.told++[a],aK:=fc s.aK a } a):=ae aiw;have hnt:dx s.told a=false:=by unfold sS at hab;simp only[Bool.or_eq_false_iff]at hab;exact hab.1
    have Ha:=Nq.aa.st k4;have Rl:=y.tr (ah.bg k4 _);have HV4:=ae Ha;have HNT:=ae hnt;have HU4:=ae Rl;have xj:=Q.below k4 Q.lt;have Si:=N.below k4 N.lt;have qt4:=Ha.awo;have qd4:=hd3.below k4 hd3.lt;have yH:Hid (∀ {k},k=lo∨k=gd∨k=gx->¬bn p2 k):=ae wJ;have xU:=ae D;have qB4:=Ha.q;clear hab HOA J Y Ha y hnt Rl;have q1:=xj.cells;have q2:=Si.cells;obtain⟨g',gl,gd',gr,gt,vd,vr,vp,vh,vl,vq,va,vt,iO,vw,kr⟩:=p2;simp only at S qB4 qt4 HKEY;subst S;go_wp2_with fail
    refine eM 10 [([],[]),([0],[(55,0)]),([1],[(56,1)]),([2],[(57,2)]),([],[]),([],[]),([5],[(60,5)]),([6],[(61,6)]),([7],[(62,7)]),([8],[(63,8)]),([0,1,2,3,4,5,6,7,8,9],[(58,3),(59,4),(64,9)])] 93 rfl ak ak ak ak au ?_;simp only[dR,dN,ew,dP];iterate 10 (apply aV.is;intro V W kW hp;(try simp only[aI,aJ,aM,aE,aF,ag]at hp);simp[aL,aw,List.lookup,hp,aS,execOp,ay,ag,aN,kW,q1,q2,qB4,qt4,go_sem];rfl)
    intro V W kW hA;simp only[aJ,aM,eA,ag,Nat.reduceAdd]at hA;obtain⟨d0,d1,d2,d3,d4,d5,d6,d7,d8,d9,-⟩:=hA;obtain⟨w5,fq,Nr,Ns⟩:=au4 (HV4.aa.st kW) HNT.aa;simp only at fq;refine bu.skip w5 rfl (by simp[aw,List.lookup,d0,d1,d2,d3,d4,d5,d6,d7,d8,d9,execOp,ay,fq,go_sem]) ?_;refine bu.nil ?_;simp only[bF,Act.put,cO,cM,cL,Nat.reduceAdd,bj];have iP:=(xj.below kW xj.lt).bT Ns λe=>yH.aa (.inl rfl) (e ▸ .inr (.inr (.inl rfl)))
    have GZ:=(Si.below kW Si.lt).bT Ns λe=>yH.aa (.inr (.inr rfl)) (e ▸ .inr (.inr (.inl rfl)))
    have hdW:=(qd4.below kW qd4.lt).bT Ns λe=>yH.aa (.inr (.inl rfl)) (e ▸ .inr (.inr (.inl rfl)))
    have HU5:=ae ((HU4.aa.tr (ah.bg kW _)).iA Ns λk _ e=>(xU.aa k (e ▸ .inr (.inr (.inl rfl)))).resolve_right af);clear q1 q2 qB4 qt4 d0 d1 d2 d3 d4 d5 d6 d7 d8 d9 fq xj Si qd4 Ns;have Hc:=ae Nr;have C5:=ae λW (k:K w5 W)=>Od s.aK a vt W (Nr.bL.at k).aK A.tx.small A.tx.BL
    have hs4:=az Nr.bL.now.aK;have q2:=Nr.q;have J:=iP.cells;have Y:=GZ.cells;simp only at q2 C5 hs4;obtain⟨At,ct,rfl⟩:=hs4;clear Nr;go_wp2_with fail
    refine eM 7 [([],[]),([],[]),([1],[(66,1)]),([2],[(67,2)]),([3],[(68,3)]),([],[]),([4,5],[(69,4),(70,5)]),([0,1,2,3,4,5,6],[(65,0)]),([0,1,2,3,4,5,6,7],[(72,7)]),([0,1,2,3,4,5,6,8],[(73,8),(71,6)])] 93 rfl ak ak ak ak au ?_;simp only[dR,dN,ew,dP];iterate 6 (apply aV.is;intro V W kW hp;(try simp only[aI,aJ,aM,aE,aF,ag]at hp);simp[aL,aw,List.lookup,hp,aS,execOp,ay,ag,aN,kW,q2,J,Y,go_sem];rfl)
    refine aV.op (λv W'=>aX w5.heap.size w5.heap.size 106 cJ (fc s.aK a) v W') (λ_ _ _ h k=>h.st k) (λV W kW hp=>?_) ?_
    ·(try simp only[aI,aJ,aM,aE,aF,ag]at hp)
     simp[aL,aw,List.lookup,hp,aS,execOp,ay,q2,J,Y,go_sem];exact Wd
    intro V W kW hA;simp only[aJ,aM,eA,ag,Nat.reduceAdd]at hA;obtain⟨d0,d1,d2,d3,d4,d5,fX,-⟩:=hA;generalize Cx:V 6=v8 at *;have qH:=Hc.aa.st kW;have gI:=fX.RA Hc.aa.low;obtain⟨A8,c8,rfl⟩:=az fX.ar;have q8:=qH.blk.cell;have z8:=qH.blk.frozen;simp only at q8 z8;iterate 2 (apply bu.pure;rfl;(simp[aw,List.lookup,bj,d0,Cx,execOp,ay,go_sem];rfl))
    refine bu.skip (W.setCell ⟨g',8,none⟩ (.slice A8 (fc s.aK a).length c8)) rfl We ?_;refine bu.nil ?_;simp only[bF,Act.put,cO,cM,cL,Nat.reduceAdd,bj];have AA:=qH.LH gI;have uS:ah (λk=>k=g') W (W.setCell ⟨g',8,none⟩ (.slice A8 (fc s.aK a).length c8)):=ah.b6 (X:=λk=>k=g') rfl 8 _;have bo:=(iP.below kW iP.lt).bT uS λe=>yH.aa (.inl rfl) (.inl e)
    have mK:=(GZ.below kW GZ.lt).bT uS λe=>yH.aa (.inr (.inr rfl)) (.inl e)
    have tA:=(hdW.below kW hdW.lt).bT uS λe=>yH.aa (.inr (.inl rfl)) (.inl e)
    have Gt:=ae ((HU5.aa.tr (ah.bg kW _)).iA uS λk _ e=>(xU.aa k (.inl e)).resolve_right af);have C7:=ae (aa0 AA (TM (a:=a) A azp.aa) a HX1.aa lo gd bo tA);have Z:=mK.cell;clear AA uS bo mK tA qH gI fX q8 z8 q2 J Y C5 d0 d1 d2 d3 d4 d5 Cx Hc HV4 HU5 HU4 iP GZ hdW;generalize World.setCell _ _ _=w6 at *;go_wp2_with fail
    refine C7.aa.mono ?_;rintro e w7⟨rfl,Sj⟩;have HN7:=ae (cW.tr Gt.aa HKEY.aa xU.aa (λ_ h=>.inl h) Sj);clear C7 Z Sj;go_wp2;go_roundw
    case rel=>exact⟨j+1,BO,af,bO,by rw[Gr.aa];exact HN7.aa,by rw[Gr.aa];exact Sh.aa.1,by rw[Gr.aa,Sh.aa.2];simp;omega,HST.aa⟩
    case measure=>simp[intOf];omega
   ·have HF:Hid (BO=s):=ae aiw;have EI:=ae (HN3.aa.k k4);clear hab HOA J Y;go_wp2;go_roundw
    case rel=>exact⟨j+1,s,af,bO,EI.aa,A,af,by rw[HST.aa,HF.aa]⟩
    case measure=>simp[intOf];omega
  ·obtain rfl:j=m.bY.length:=af;have ba:¬(m.bY.length:Int)<(m.bY.length:Int):=af;obtain rfl:BA=s:=WI;have EH:cW M p BA F wr:=⟨p2,E,t,C,D⟩;obtain⟨BD,hBD⟩:∃BD,Hid (BD=m.ends.foldl ji BA):=⟨_,ae rfl⟩;rw[<- hBD.aa]at HR;have U:=gq.bT t (I.aa (lo+1) af);have qc:=U.cell;have EI:=ae EH;have azq:=ae A;clear yK E t C D S U EH htj A p2 tl;generalize wr=w3 at *;go_wp2_with fail
   go_loopw [12,81] (fun _ i W=>∃(j:Nat) (s:aB),j<=m.ends.length/\i=.int .i64 (j:Int)/\cW M p s F W/\bH s/\BD=(m.ends.drop j).foldl ji s) (fun _ i _=>m.ends.length-(intOf i).toNat)
   case atStart=>exact⟨0,BA,af,rfl,EI.aa,azq.aa,by rw[hBD.aa,dP]⟩
   case round =>
    clear qc;obtain⟨j,s,hj,rfl,hN,A,yK⟩:=hrel;obtain⟨p2,E,t,C,D⟩:=hN;have S:p2.g=g:=(yA C).trans hg.aa.symm;by_cases hlt:j<m.ends.length
    ·have ba:(j:Int)<(m.ends.length:Int):=af;obtain⟨b1,o1,c1',cs1,O,dK,dH,hF,hcell⟩:=Sd.aa.at j hlt au;injection O with O _ gX;subst O gX;have HST:Hid (BD=(m.ends.drop (j+1)).foldl ji (ji s m.ends[j])):=ae aiv;have T:=ye.aa _ (bW hlt);generalize m.ends[j]=a at *;have hcw:=hcell wr (zH.aa wr t);have hcs:cs1=dL a:=hF wr (zH.aa wr t);have Z:∀i,i<3->wr.cell? ⟨b1,o1+j*3+i,none⟩=(bZ a)[i]?:=λi hi=>(hcw i hi).trans (by rw[hcs];exact Array.getElem?_toList)
     have q0:wr.cell? ⟨b1,o1+j*3,none⟩=some (.int .i64 a.1):=Z 0 au;have N:=ai.new wr 46 (bZ a);have k3:K wr (wr.alloc (.cells (bZ a) 46)):=(K.rf wr).al _;clear hcw hcell hF dH dK hcs yK;go_upto_region 21 with (fail);have G:=E.st k3;have y:ah (bn p) F (wr.alloc (.cells (bZ a) 46)):=t.tr (ah.bg k3 _);generalize World.alloc wr _=w3 at *;generalize sJ:wr.heap.size=gx at *;clear sJ Z q0;have Q:=hb2.bT y (I.aa lo (aG _));have hd3:=hd.bT y (I.aa gd WH);have Y:=N.cell;have C3:=ae (aa0 G A a T lo gd (by rw[S];exact Q) (by rw[S];exact hd3));have Sh:=ae (NZ A T);have AL:=ae y;have HKEY:=ae C;have xU:=ae D;generalize ji s a=BO at *;clear E G t y C D Q hd3;go_wp2_with fail
     refine C3.aa.mono ?_;rintro e w4⟨rfl,Nt⟩;have HN5:=ae (cW.tr AL.aa HKEY.aa xU.aa (λ_ h=>.inl h) Nt);clear C3 Y Nt;go_wp2;go_roundw
     case rel=>exact⟨j+1,BO,af,bO,HN5.aa,Sh.aa.1,HST.aa⟩
     case measure=>simp[intOf];omega
    ·obtain rfl:j=m.ends.length:=af;have ba:¬(m.ends.length:Int)<(m.ends.length:Int):=af;obtain rfl:BD=s:=WI;have Q:=hb2.bT t (I.aa lo (aG _));have U:=gq.bT t (I.aa (lo+1) af);have J:=Q.cell;have qc:=U.cell;have hfp:Fx (λk=>M k∨bn p2 k) (λW=>ar aQ m.cH (.slice A4 m.cH.length c4) W) wr:=H4.aa.to (zH.aa wr t) (λ_ h=>h) λk hk h=>h.elim (λh=>h) λh=>(D k h).elim (H.aa.sub k) λh=>(by have:=bw.size;omega)
     have C8:=ae (aon E A m.cH _ hfp Ev.aa Nn);rw[S]at C8;have AL:=ae t;have HKEY:=ae C;have xU:=ae D;have eB:Hid (R=sZ BD m.cH):=ae HR.aa;clear yK E t C D Q U;go_wp2_with fail
     refine C8.aa.mono ?_;rintro e w4⟨rfl,Nt⟩;have HN5:=ae (cW.tr AL.aa HKEY.aa xU.aa (λ_ h=>.inl h) Nt);clear C8 J qc Nt;go_wp2;rw[Exit.noGoto_normal];go_end0;refine⟨rfl,?_⟩;rw[eB.aa];exact cW.xe HN5.aa bw xa.aa
structure lL(B:aB):Prop where
 nd:B.told.Nodup
 tf:∀a∈B.told,df a
 rf:∀a∈B.refused,df a
 nk:(B.bR.map (·.1)).Nodup
theorem lL.same{B B':aB}(h:lL B)(i:B'.told=B.told)(j:B'.refused=B.refused/\B'.bR=B.bR):lL B':=⟨by rw[i];exact h.nd,by rw[i];exact h.tf,by rw[j.1];exact h.rf,by rw[j.2];exact h.nk⟩
theorem T6{B:aB}(t:bH B)(h:lL B):lL (ic B):=by
 have j:=t.open';unfold ic;split
 ·have s:=H7 t λx i=>(j.2.1 x i).2
  have u:=J3 (kids:=cZ B) (p:=(xI B,[])) s.1 λx i=>(j.1 x i).2
  have e:=s.2.tr u.2.1;exact h.same e.told ⟨e.refused,e.bR⟩
 ·exact h
theorem abB(B:aB)(a:av):(ji B a).refused=B.refused/\(ji B a).bR=B.bR:=by
 unfold ji;split
 ·have h:=EU (B:=B) (r:=jy 5 a) yY;exact⟨h.refused,h.bR⟩
 ·exact⟨rfl,rfl⟩
theorem T7:∀ {l:List aq} {B:aB} {n:Nat},(kT B n l).refused=B.refused/\(kT B n l).bR=B.bR
 | [],B,n=>⟨rfl,rfl⟩
 | x :: l,B,n=>by
  unfold kT;split
  ·split
   ·have h:=EU (B:=B) (r:=lI n x) yX;have g:=T7 (l:=l) (B:=(dt B (lI n x)).1) (n:=(n+1)%18446744073709551616);exact⟨g.1.trans h.refused,g.2.trans h.bR⟩
   ·exact⟨rfl,rfl⟩
  ·exact T7
theorem ato{B:aB}{a:av}(h:lL B)(j:bH B)(t:df a)(y:B.told.length+1<=1000000):lL (mT B a)/\bH (mT B a)/\(mT B a).told.length<=B.told.length+1:=by
 unfold mT;split
 ·exact⟨h,j,af⟩
 ·rename_i hn;have i:=NZ (TM (a:=a) j y) t;have s:=abB { B with told:=B.told++[a],aK:=fc B.aK a } a;have A:a∉B.told:=λu=>hn (by unfold sS;rw[Kg.2 u];rfl)
  refine⟨⟨?_,?_,?_,?_⟩,i.1,?_⟩
  ·rw[i.2];exact J2 h.nd A
  ·rw[i.2];intro b hb;rcases List.mem_append.1 hb with hb|hb
   ·exact h.tf b hb
   ·simp at hb;subst hb;exact t
  ·rw[s.1];exact h.rf
  ·rw[s.2];exact h.nk
  ·rw[i.2];simp
theorem aca:∀ {l:List av} {B:aB},lL B->bH B->(∀a∈l,df a)->B.told.length+l.length<=1000000->lL (l.foldl mT B)/\bH (l.foldl mT B)/\(l.foldl mT B).told.length<=B.told.length+l.length
 | [],B,h,hG,_,_=>⟨h,hG,aj⟩
 | a :: l,B,h,hG,hl,hn=>by simp only[iE]at hn;obtain⟨i,j,y⟩:=ato h hG (hl a aj) af;obtain⟨s,t,u⟩:=aca (l:=l) i j (λb hb=>hl b Pm) af;exact⟨s,t,by simp only[List.foldl_cons,iE];omega⟩
theorem abC:∀ {l:List av} {B:aB},lL B->bH B->(∀a∈l,df a)->lL (l.foldl ji B)/\bH (l.foldl ji B)/\(l.foldl ji B).told=B.told
 | [],B,h,hG,_=>⟨h,hG,rfl⟩
 | a :: l,B,h,hG,hl=>by
  have i:=NZ hG (hl a aj);obtain⟨s,t,j⟩:=abC (l:=l) (h.same i.2 (abB B a)) i.1 λb hb=>hl b Pm
  exact⟨s,t,j.trans i.2⟩
theorem acX{s:bA}{y:av}:∀ {l:List aq} {p:List aq×List av},y∈(l.foldl (iR s) p).2->y∈p.2∨∃x∈l,y=ax x
 | [],p,h=>.inl h
 | x :: l,p,h=>by
  rcases acX (l:=l) h with h|⟨z,hz,e⟩
  ·unfold iR at h;exact aix
  ·exact .inr ⟨z,K7,e⟩
theorem adE{s:bA}:∀(l:List aq) (p:List aq×List av),(l.foldl (iR s) p).1.length+(l.foldl (iR s) p).2.length<=p.1.length+p.2.length+l.length
 | [],p=>aj
 | x :: l,p=>by
  have j:=adE (s:=s) l (iR s p x);have i:(iR s p x).1.length+(iR s p x).2.length<=p.1.length+p.2.length+1:=by
   unfold iR;split
   ·omega
   ·split <;> simp <;> omega
  exact IB
theorem Ow{y:av}:∀ {l:List aq} {p:aB×List av},((l.foldl iD p).1.told=p.1.told/\(l.foldl iD p).1.bR=p.1.bR)/\(y∈(l.foldl iD p).2->y∈p.2∨∃x∈l,y=ax x)
 | [],p=>⟨⟨rfl,rfl⟩,.inl⟩
 | x :: l,p=>by
  obtain⟨j,s⟩:=Ow (y:=y) (l:=l) (p:=iD p x);have i:((iD p x).1.told=p.1.told/\(iD p x).1.bR=p.1.bR)/\(y∈(iD p x).2->y∈p.2∨y=ax x):=by
   unfold iD;split
   ·have g:=EU (B:=p.1) (r:=s8 x) DD;exact⟨⟨g.told,g.bR⟩,.inl⟩
   ·exact⟨⟨rfl,rfl⟩,λh=>rT⟩
  refine⟨⟨j.1.trans i.1.1,j.2.trans i.1.2⟩,λh=>?_⟩;rcases s h with h|⟨z,hz,e⟩
  ·rcases i.2 h with h|h
   ·exact .inl h
   ·exact .inr ⟨x,aj,h⟩
  ·exact .inr ⟨z,K7,e⟩
theorem K8{x:aq}(h:cK x):df (ax x):=⟨h.2.1,h.2.2.2.1,h.2.2.2.2.1⟩
theorem atp{B:aB}{l:List aq}(h:lL B)(D:bH B)(t:∀x∈l,cK x)(hn:l.length<=16):lL (sZ B l)/\bH (sZ B l)/\(sZ B l).told=B.told:=by
 have hm:∀x∈mi B l,x∈l:=λx i=>(List.mem_filter.1 i).1
 have C:∀x∈(nV B.st (mi B l)).1,x∈l:=λx i=>by
  rcases abe i with h|h
  ·simp at h
  ·exact hm x h
 have A:=ab9 (l:=(nV B.st (mi B l)).1) (p:=(B,s9 B l++(nV B.st (mi B l)).2)) D λx i=>t x (C x i)
 have E:=adE (s:=B.st) (mi B l) ([],[]);have H:(mi B l).length<=l.length:=lV _ _;have G:(s9 B l).length<=l.length:=by unfold s9;rw[List.length_map];exact lV _ _
 have u:(rX B l).1.told=B.told:=(Ow (y:=(0,0,0))).1.1;have F:(rX B l).1.bR=B.bR:=(Ow (y:=(0,0,0))).1.2;refine⟨⟨by show (rX B l).1.told.Nodup;rw[u];exact h.nd,by show ∀a∈(rX B l).1.told,_;rw[u];exact h.tf,λa j=>?_,by show ((rX B l).1.bR.map (·.1)).Nodup;rw[F];exact h.nk⟩,?_,u⟩
 ·rcases Ow.2 j with j|⟨x,i,rfl⟩
  ·rcases List.mem_append.1 j with j|j
   ·unfold s9 at j;obtain⟨x,i,rfl⟩:=List.mem_map.1 j;exact K8 (t x (List.mem_filter.1 i).1)
   ·rcases acX j with j|⟨x,i,rfl⟩
    ·simp at j
    ·exact K8 (t x (hm x i))
  ·exact K8 (t x (C x i))
 ·have g:=A.1;refine⟨g.tr,g.me,g.hm,g.dk,g.tx,g.calls,g.bR,g.told,?_,g.waits,g.BK⟩;have:=A.2;simp only[cT]at this;simp only[nV]at this;simp only[List.length_nil]at E;show (rX B l).2.length<=1000000;unfold rX nV;omega
theorem atq{B:aB}{m:bK}(h:lL B)(I:bH B)(Q:ed m=true)(hfit:oQ m)(O:B.told.length+m.bY.length<=1000000):lL (qU B m)/\bH (qU B m)/\(qU B m).told.length<=B.told.length+16:=by
 obtain⟨s,S,M,P,qu,tl,A,R,L⟩:=PK Q hfit;have j:=Oh (l:=m.entries) (B:=B) (n:=m.got);have J:=h.same j (T7 (l:=m.entries) (B:=B) (n:=m.got));have F:=Og I L λx i=>(s x i).2
 obtain⟨y,G,N⟩:=aca J F qu (by rw[j];exact O);obtain⟨C,u,t⟩:=abC y G A;obtain⟨H,E,D⟩:=atp C u (λx i=>(M x i).2) P;refine⟨H,E,?_⟩;show (sZ (m.ends.foldl ji (m.bY.foldl mT (kT B m.got m.entries))) m.cH).told.length<=_;rw[D,t];rw[j]at N;omega
theorem arR{l:List (Int×bK)}{k:Int}{m:bK}{x:Int×bK}(h:x∈nA l k m):x∈l∨x=(k,m):=by
 unfold nA at h;split at h
 ·obtain⟨y,i,rfl⟩:=List.mem_map.1 h;split
  ·exact .inr rfl
  ·exact .inl i
 ·simpa using h
theorem atr{l:List (Int×bK)}{k:Int}{m:bK}(h:(l.map (·.1)).Nodup):((nA l k m).map (·.1)).Nodup:=by
 unfold nA;split
 ·rw[List.map_map];have e:((λx:Int×bK=>x.1) ∘ λp:Int×bK=>if p.1=k then (k,m)else p)=λp=>p.1:=by
   funext p;simp only[Function.comp_apply];split
   ·rename_i h;exact h.symm
   ·rfl
  rw[e];exact h
 ·rename_i hn;rw[List.map_append];refine J2 h λhk=>hn ?_
  obtain⟨p,i,e⟩:=List.mem_map.1 hk;rw[List.any_eq_true];exact⟨p,i,Iq⟩
theorem Ua{B:aB}{k:Int}{m:bK}(i:bH B)(s:ed m=true)(hfit:oQ m):bH { B with bR:=nA B.bR k m } :=
 ⟨i.tr,i.me,i.hm,i.dk,i.tx,i.calls,λx j=>by
  rcases arR j with h|rfl
  ·exact i.bR x h
  ·exact⟨s,hfit⟩,i.told,i.eX,i.waits,i.BK⟩
theorem abD{B:aB}(h:lL B)(hG:bH B)(fr:Int)(b:List UInt8)(D:B.told.length+16<=1000000):lL (jM B fr b).1/\bH (jM B fr b).1/\(jM B fr b).1.told.length<=B.told.length+16:=by
 unfold jM;split
 ·split
  ·exact WJ
  ·rename_i m hm;have j:=(T2 hm).2;have hfit:=Uu hm;split
   ·have g:=Ua (k:=fr) hG j hfit;have f:lL { B with bR:=nA B.bR fr m }:=⟨h.nd,h.tf,h.rf,atr h.nk⟩;refine⟨T6 g f,Oe g,?_⟩;have s:=g.open';have t:=H7 g λx i=>(s.2.1 x i).2
    have A:=J3 (kids:=cZ { B with bR:=nA B.bR fr m }) (p:=(xI { B with bR:=nA B.bR fr m },[])) t.1 λx i=>(s.1 x i).2
    have e:(ic { B with bR:=nA B.bR fr m }).told=B.told:=by
     unfold ic;split
     ·exact (t.2.tr A.2.1).told
     ·rfl
    show (ic { B with bR:=nA B.bR fr m }).told.length<=_;rw[e];omega
   ·split
    ·have E:=(PK j hfit).2.2.2.2.2.1;obtain⟨u,C,y⟩:=atq h hG j hfit af;exact⟨u,C,y⟩
    ·exact WJ
 ·exact WJ
theorem UA{l:List dZ}{cs:List Int}{x:aq}(h:cK x):cK (kj l cs x):=by
 unfold kj;split
 ·exact⟨h.1,h.2.1,h.2.2.1,h.2.2.2.1,h.2.2.2.2.1,h.2.2.2.2.2.1,h.2.2.2.2.2.2.1,λe i=>h.2.2.2.2.2.2.2 e (List.mem_filter.1 i).1⟩
 ·exact h
theorem adF{ab:List av}{a:av}:∀ {l:List aq} {o:List av},a∈l.foldl (pk ab) o->a∈o∨∃x∈l,a=ax x
 | [],o,h=>.inl h
 | x :: l,o,h=>by
  rcases adF (l:=l) h with h|⟨z,hz,e⟩
  ·unfold pk at h;split at h
   ·exact aiy
   ·exact .inl h
  ·exact .inr ⟨z,K7,e⟩
theorem adG{s:bA}{op:List aq}{a:av}:∀ {l:List fG} {o:List av},a∈l.foldl (kP s op) o->a∈o∨∃x∈l,a=x.id
 | [],o,h=>.inl h
 | x :: l,o,h=>by
  rcases adG (l:=l) h with h|⟨z,hz,e⟩
  ·unfold kP at h;exact aix
  ·exact .inr ⟨z,K7,e⟩
theorem acb{i:List bK}{v:fG}:∀ {l:List aq} {o:List fG},v∈l.foldl (pR i) o->v∈o∨∃x∈l,v.id=ax x
 | [],o,h=>.inl h
 | x :: l,o,h=>by
  rcases acb (l:=l) h with h|⟨z,hz,e⟩
  ·unfold pR at h;split at h
   ·rcases List.mem_append.1 h with h|h
    ·exact .inl h
    ·simp at h;exact .inr ⟨x,aj,by rw[h]⟩
   ·exact .inl h
  ·exact .inr ⟨z,K7,e⟩
theorem acd{v:fG}:∀ {l:List av} {o:List fG},v∈l.foldl lU o->v∈o∨v.id∈l
 | [],o,h=>.inl h
 | x :: l,o,h=>by
  rcases acd (l:=l) h with h|h
  ·unfold lU at h;split at h
   ·exact .inl h
   ·split at h
    ·exact .inl h
    ·rcases List.mem_append.1 h with h|h
     ·exact .inl h
     ·simp at h;exact .inr (by rw[h];simp)
  ·exact .inr tQ
theorem bH.ajJ{B:aB}(j:bH B)(k:Int):(∀x∈(iI B k).asks,cK x)/\(∀v∈(iI B k).bM,df v.id)/\(iI B k).asks.length<=16/\(iI B k).bM.length<=16/\(iI B k).got<18446744073709551616:=by
 rcases j.rep k with h|⟨h,f⟩
 ·rw[h];simp[xQ]
 ·simp only[ed,ki,cz,decide_eq_true_eq,pU]at h;obtain⟨⟨⟨⟨⟨⟨-,i,-⟩,s,-⟩,-⟩,-⟩,-⟩,-⟩:=h;exact⟨f.2.2.2.1,f.2.2.1,s,i,f.2.1⟩
theorem apv{B:aB}(s:bH B)(k:Int):oQ (xu B k):=by
 have A:=s.dk.inv;have u:=s.ajJ k;have C:=s.dk.len;refine⟨by simp[xu,bU],?_,by simp[xu],by simp[xu],λx i=>?_,λx i=>?_,λa t=>?_,λa t=>?_⟩
 ·show oL B k<_;unfold oL;omega
 ·have i:x∈Bv B (tO B k) (oL B k) (y9 B.st.list (oL B k)):=i;unfold Bv at i;obtain⟨y,j,rfl⟩:=List.mem_map.1 i;have:=List.fst_mem_of_mem_zipIdx j;exact UA (A.wV _ (List.mem_of_mem_drop (lE this))).2
 ·have i:x∈((if jO B then B.waits else B.st.prom).take 16).map (kj (kO B.st.list) (tO B k)):=i;obtain⟨y,j,rfl⟩:=List.mem_map.1 i;have j:=lE j;split at j
  ·exact UA (s.waits y j).2
  ·exact UA (A.yq y j).2
 ·rcases adF (show a∈(iI B k).asks.foldl (pk (Bo B)) []from t)with h|⟨x,i,rfl⟩
  ·simp at h
  ·exact K8 (u.1 x i)
 ·rcases adG (show a∈(iI B k).bM.foldl (kP B.st B.waits) []from t)with h|⟨x,i,rfl⟩
  ·simp at h
  ·exact u.2.1 x i
theorem aqt{B:aB}(s:bH B)(h:lL B):oQ (Dx B):=by
 have t:=s.dk.inv;have u:=s.dk.len;refine⟨by simp[Dx,bU],by show B.st.list.length<_;omega,λv i=>?_,λx j=>(s.asks j).2,PL,PL,PL,PL⟩;rcases acd (show v∈B.refused.foldl lU (B.st.prom.foldl (pR (cZ B)) [])from i)with i|i
 ·rcases acb i with i|⟨x,j,e⟩
  ·simp at i
  ·rw[e];exact K8 (t.yq x j).2
 ·exact h.rf _ i
structure fe(B B':aB):Prop where
 list:B.st.list <+: B'.st.list
 ab:B.st.ab <+: B'.st.ab
 life:B'.st.life=B.st.life
theorem fe.rf(B:aB):fe B B:=⟨List.prefix_refl _,List.prefix_refl _,rfl⟩
theorem fe.tr{A B C:aB}(h:fe A B)(k:fe B C):fe A C:=⟨h.list.trans k.list,h.ab.trans k.ab,k.life.trans h.life⟩
structure gG(B:aB):Prop where
 ab:∀a∈B.st.ab,cA B.st.list a=false
 prom:B.st.prom.length<=6
theorem acY(l:List aq)(a:av):(ia l a).length<=l.length:=lV _ _
theorem arS{l:List av}{a b:av}(h:dx l a=false)(hb:b∈l):b≠a:=by unfold dx at h;rw[List.any_eq_false]at h;simpa using h b hb
theorem awp{s t:bA}{r:Rec}(hk:r.kind≠1)(e:fh s r=some t)(u:∀a∈s.ab,cA s.list a=false):s.list <+: t.list/\s.ab <+: t.ab/\t.life=s.life/\(∀a∈t.ab,cA t.list a=false)/\(t.prom.length<=s.prom.length+(if r.kind=3 then 1 else 0)):=by
 have A:=ah8 hk e;unfold fh at e;rw[if_neg hk]at e;split at e
 ·rename_i y;unfold uD at e;split at e
  ·cases e
  split at e
  ·cases e
  split at e
  ·cases e
  rename_i j h4;injection e with e;subst e;refine⟨List.prefix_append _ _,List.prefix_refl _,rfl,λa i=>?_,?_⟩
  ·unfold cA;rw[List.any_append,Bool.or_eq_false_iff];refine⟨u a i,?_⟩;have:=arS E5 i;simpa using λe=>this e.symm
  ·have:=acY s.prom (ax r.e);show (ia s.prom (ax r.e)).length<=_;omega
 split at e
 ·rename_i j;unfold uE at e;split at e
  ·cases e
  split at e
  ·cases e
  split at e
  ·cases e
  injection e with e;subst e;refine⟨List.prefix_refl _,List.prefix_refl _,rfl,u,?_⟩;rw[if_pos j];simp
 split at e
 ·unfold uH at e;split at e
  ·cases e
  split at e
  ·cases e
  rename_i j h4;injection e with e;subst e;refine⟨List.prefix_refl _,List.prefix_append _ _,rfl,λa i=>?_,?_⟩
  ·rcases List.mem_append.1 i with i|i
   ·exact u a i
   ·simp at i;subst i;simpa using j
  ·exact aiz
 ·unfold wP at e;split at e
  ·injection e with e;subst e;refine⟨List.prefix_refl _,List.prefix_refl _,rfl,u,?_⟩;exact aiz
  ·cases e
theorem acZ{B:aB}{r:Rec}(hk:r.kind≠1)(i:∀a∈B.st.ab,cA B.st.list a=false):fe B (dt B r).1/\(∀a∈(dt B r).1.st.ab,cA (dt B r).1.st.list a=false)/\(dt B r).1.st.prom.length<=B.st.prom.length+(if r.kind=3 then 1 else 0):=by
 unfold dt;split
 ·split
  ·exact⟨fe.rf _,i,aj⟩
  ·rename_i t y;obtain⟨u,A,C,j,s⟩:=awp hk y i;exact⟨⟨u,A,C⟩,j,s⟩
 ·exact⟨fe.rf _,i,aj⟩
theorem OH{B:aB}{r:Rec}(hk:r.kind≠1)(i:r.kind≠3)(h:gG B):fe B (dt B r).1/\gG (dt B r).1:=by obtain⟨a,b,c⟩:=acZ hk h.ab;rw[if_neg i]at c;exact⟨a,⟨b,bq c h.prom⟩⟩
theorem adH{B:aB}(h:gG B)(x:aq):fe B (mG B x).1/\gG (mG B x).1:=OH yX yX h
theorem att{B:aB}(h:gG B)(a:av):fe B (nB B a).1/\gG (nB B a).1:=by
 have:=OH (B:=B) (r:=jy 4 a) yY yY h;unfold nB;split
 ·exact⟨⟨this.1.list,this.1.ab,this.1.life⟩,⟨this.2.ab,this.2.prom⟩⟩
 ·exact⟨fe.rf _,h⟩
theorem ace{B:aB}(h:gG B)(a:av):fe B (ji B a)/\gG (ji B a):=by
 unfold ji;split
 ·exact OH yY yY h
 ·exact⟨fe.rf _,h⟩
theorem UB{α:Type}{f:aB->α->aB}(j:∀B x,gG B->fe B (f B x)/\gG (f B x)):∀(l:List α) (B:aB),gG B->fe B (l.foldl f B)/\gG (l.foldl f B):=by
 intro l
 induction l with
 | nil=>intro B h;exact⟨fe.rf _,h⟩
 | cons x l i => intro B h;obtain⟨a,b⟩:=j B x h;obtain⟨c,d⟩:=i (f B x) b;exact⟨a.tr c,d⟩
theorem atu{kids:List bK}{p:aB×List aq}{x:aq}(h:gG p.1):fe p.1 (kQ kids p x).1/\gG (kQ kids p x).1:=by
 unfold kQ;split
 ·split
  ·exact adH h x
  ·exact⟨fe.rf _,h⟩
 ·split
  ·split
   ·exact att h _
   ·exact⟨fe.rf _,h⟩
  ·exact⟨fe.rf _,h⟩
theorem atv{kids:List bK}:∀(l:List aq) (p:aB×List aq),gG p.1->fe p.1 (l.foldl (kQ kids) p).1/\gG (l.foldl (kQ kids) p).1:=by
 intro l
 induction l with
 | nil=>intro p h;exact⟨fe.rf _,h⟩
 | cons x l i => intro p h;obtain⟨a,b⟩:=atu (kids:=kids) (x:=x) h;obtain⟨c,d⟩:=i (kQ kids p x) b;exact⟨a.tr c,d⟩
theorem UC{B:aB}(h:gG B):fe B (ic B)/\gG (ic B):=by
 unfold ic;split
 ·obtain⟨a,b⟩:=UB (f:=λb x=>(mG b x).1) (λB x h=>adH h x) (oG B.st B.waits (lY B)).2 B h;obtain⟨c,d⟩:=atv (kids:=cZ B) (oG B.st B.waits (lY B)).1 (xI B,[]) b;exact⟨⟨(a.tr c).list,(a.tr c).ab,(a.tr c).life⟩,⟨d.ab,d.prom⟩⟩
 ·exact⟨fe.rf _,h⟩
theorem atw:∀(l:List aq) (B:aB) (n:Nat),gG B->fe B (kT B n l)/\gG (kT B n l):=by
 intro l
 induction l with
 | nil=>intro B n h;exact⟨fe.rf _,h⟩
 | cons x l i =>
  intro B n h;unfold kT;split
  ·split
   ·obtain⟨a,b⟩:=OH (B:=B) (r:=lI n x) yX yX h;obtain⟨c,d⟩:=i (dt B (lI n x)).1 ((n+1)%18446744073709551616) b;exact⟨a.tr c,d⟩
   ·exact⟨fe.rf _,h⟩
  ·exact i B _ h
theorem atx{B:aB}(h:gG B)(a:av):fe B (mT B a)/\gG (mT B a):=by
 unfold mT;split
 ·exact⟨fe.rf _,h⟩
 ·have i:gG { B with told:=B.told++[a],aK:=fc B.aK a }:=⟨h.ab,h.prom⟩;obtain⟨b,c⟩:=ace i a;exact⟨⟨b.list,b.ab,b.life⟩,c⟩
theorem apw{s:bA}(j:s.prom.length<=6):∀(l:List aq) (p:List aq×List av),s.prom.length+p.1.length<=6->s.prom.length+(l.foldl (iR s) p).1.length<=6:=by
 intro l
 induction l with
 | nil=>intro p h;exact h
 | cons x l i =>
  intro p h;refine i _ ?_;unfold iR;split
  ·exact h
  ·split
   ·simp;omega
   ·exact h
theorem aty:∀(l:List aq) (p:aB×List av),(∀a∈p.1.st.ab,cA p.1.st.list a=false)->p.1.st.prom.length+l.length<=6->fe p.1 (l.foldl iD p).1/\gG (l.foldl iD p).1:=by
 intro l
 induction l with
 | nil=>intro p i h2;exact⟨fe.rf _,⟨i,qN⟩⟩
 | cons x l s =>
  intro p i h2;simp only[iE]at h2;have hn:=acZ (B:=p.1) (r:=s8 x) DD i;have j:fe p.1 (iD p x).1/\(∀a∈(iD p x).1.st.ab,cA (iD p x).1.st.list a=false)/\(iD p x).1.st.prom.length<=p.1.st.prom.length+1:=by
   unfold iD;split
   ·exact⟨hn.1,hn.2.1,bq hn.2.2 WK⟩
   ·exact⟨fe.rf _,i,Nat.le_succ _⟩
  obtain⟨a,b⟩:=s (iD p x) j.2.1 (by have:=j.2.2;omega);exact⟨j.1.tr a,b⟩
theorem au5{B:aB}(h:gG B)(l:List aq):fe B (sZ B l)/\gG (sZ B l):=by have i:=apw h.prom (mi B l) ([],[]) (by simpa using h.prom);obtain⟨a,b⟩:=aty (nV B.st (mi B l)).1 (B,s9 B l++(nV B.st (mi B l)).2) h.ab i;unfold sZ rX;exact⟨⟨a.list,a.ab,a.life⟩,⟨b.ab,b.prom⟩⟩
theorem au6{B:aB}(h:gG B)(m:bK):fe B (qU B m)/\gG (qU B m):=by obtain⟨j,A⟩:=atw m.entries B m.got h;obtain⟨y,u⟩:=UB (f:=mT) (λB x h=>atx h x) m.bY _ A;obtain⟨s,i⟩:=UB (f:=ji) (λB x h=>ace h x) m.ends _ u;obtain⟨t,C⟩:=au5 i m.cH;exact⟨((j.tr y).tr s).tr t,C⟩
theorem acf{B:aB}(h:gG B)(fr:Int)(b:List UInt8):fe B (jM B fr b).1/\gG (jM B fr b).1:=by
 unfold jM;split
 ·split
  ·exact⟨fe.rf _,h⟩
  ·rename_i m _;split
   ·have i:gG { B with bR:=nA B.bR fr m }:=⟨h.ab,h.prom⟩;obtain⟨a,c⟩:=UC i;exact⟨⟨a.list,a.ab,a.life⟩,c⟩
   ·split
    ·exact au6 h m
    ·exact⟨fe.rf _,h⟩
 ·exact⟨fe.rf _,h⟩
theorem au7{B:aB}(h:gG B)(c:Int)(i:List bz×Int):fe B (lF B c i).1/\gG (lF B c i).1:=by
 unfold lF;split
 ·exact aiA
 ·exact⟨fe.rf _,h⟩
theorem au8{B:aB}(h:gG B)(r:List bz×Int):fe B (gF B r).1/\gG (gF B r).1:=by unfold gF;exact aiA
theorem au9{me:Int}{p aZ:List Int}{d:lq}:gG (tZ me p aZ d (dS iL)):=⟨λa h=>by simp[tZ,dS,iL]at h,by simp[tZ,dS,iL]⟩
structure aj1(B B':aB):Prop where
 me:B'.me=B.me
 par:B'.par=B.par
 aZ:B'.aZ=B.aZ
 calls:B'.calls=B.calls
 bR:B'.bR=B.bR
 refused:B'.refused=B.refused
 told:B'.told=B.told
 life:B'.st.life=B.st.life
theorem mU.w{B B':aB}(h:mU B B'):aj1 B B':=⟨h.me,h.par,h.aZ,h.calls,h.bR,h.refused,h.told,h.life⟩
theorem Oi{B:aB}(t:bH B):aj1 B (ic B):=by
 have j:=t.open';unfold ic;split
 ·have s:=H7 t λx i=>(j.2.1 x i).2
  have u:=J3 (kids:=cZ B) (p:=(xI B,[])) s.1 λx i=>(j.1 x i).2
  have h:=s.2.tr u.2.1;exact⟨h.me,h.par,h.aZ,h.calls,h.bR,h.refused,h.told,h.life⟩
 ·exact (mU.rf B).w
theorem arT{M:Nat->Prop}{p:cV}{B:aB}{w:World}(h:bC M p B w)(C:bH B)(J:jO B=true)(G:mF B=[]) :
 Calls prog 18 #[.pointer (some ⟨p.g,0,none⟩)] w λe w'=>e=.returned (.slice none 0 0)/\cW M p (ic B) w w':=by
 have I:=ae (Tz h C)
 have D:=Oi C
 have Y:=Oe C
 have Jn:Hid (jO (ic B)=true):=ae (by unfold jO at J⊢;rw[D.me];exact J)
 have Z:Hid (mF (ic B)=[]):=ae (by unfold mF at G⊢;rw[D.me,D.par];exact G)
 generalize ic B=WB at *
 obtain⟨g,hg⟩:∃g,g=p.g:=⟨_,rfl⟩
 rw[<- hg]at I⊢
 have HG:=ae hg
 clear h C J G D hg
 go_enter func18,ntmps18
 go_wp2_with fail
 refine I.aa.mono ?_
 rintro e j⟨rfl,U⟩
 obtain⟨p',s,u,F,T⟩:=U
 have Q:K j (j.alloc (.cells #[.slice none 0 0] 62)):=(K.rf j).al _
 have t:=ai.new j 62 #[.slice none 0 0]
 have E:=ae (And.intro s (And.intro u (And.intro F T)))
 have A:=ae λW (k:K j W)=>JV (s.st k)
 have y:=ae λW (k:K j W)=>N8 (s.st k) Y
 rw[yA F,<- HG.aa]at A y
 rw[Jn.aa]at A
 rw[Z.aa]at y
 clear s u F T I
 go_upto_region 5 with (fail)
 generalize j.alloc _=w2 at *
 generalize V:j.heap.size=ob at t⊢
 clear V
 go_wp2_with fail
 refine (A.aa w2 Q).mono ?_
 rintro e w3⟨rfl,O⟩
 have L:=Q.tr O
 have H:=t.below O t.lt
 clear A t
 go_wp2_with fail
 refine (y.aa w3 L).mono ?_
 rintro e R⟨v4,rfl,S,N⟩
 have X:=L.tr N
 have q:=(H.below N H.lt).cell
 obtain⟨A4,c4,rfl⟩:=S.slice
 have HF:Hid (cW M p WB w R):=ae (cW.k ⟨p',E.aa.1,E.aa.2.1,E.aa.2.2.1,E.aa.2.2.2⟩ X)
 clear y S H
 go_wp2_with fail
 go_loopw [6,52] (fun _ i W=>i=.int .i64 0/\W=R) (fun _ _ _=>0)
 case atStart=>exact⟨rfl,rfl⟩
 case round => obtain⟨rfl,rfl⟩:=hrel;go_wp2;go_ret;exact⟨rfl,HF.aa⟩
def fY(l:List bz):Prop:=∀t∈l,t.asked=false->t.e.kind=1
theorem fY.nil:fY []:=λt h=>by simp at h
theorem fY.erase{l:List bz}(h:fY l)(k:Nat):fY (l.eraseIdx k):=λt i=>h t (List.mem_of_mem_eraseIdx i)
theorem fY.settle{l:List bz}(h:fY l)(a:av):fY (fc l a):=by
 unfold fc;split
 ·exact h
 ·exact h.erase _
theorem fY.add{l:List bz}(h:fY l)(t:bz)(ht:t.asked=true∨t.e.kind=1):fY (ui l t).1:=by
 unfold ui
 repeat' split
 all_goals first|exact h|skip
 intro s i
 rcases List.mem_append.1 i with i|i
 ·exact h s i
 ·simp at i;subst i;exact aiB
theorem fY.set{l:List bz}(h:fY l)(k:Nat)(t:bz)(ht:t.asked=true∨t.e.kind=1):fY (l.set k t):=λs i=>by
 rcases List.mem_or_eq_of_mem_set i with i|rfl
 ·exact h s i
 ·exact aiB
theorem fY.WL{l:List bz}(h:fY l)(a:av)(e:List bh):fY (nv l a e).1:=by
 unfold nv;split
 ·exact h
 ·split
  ·exact h
  ·rename_i k t i;repeat' split
   all_goals first|exact h|skip
   refine h.set _ _ ?_;cases hk:t.asked
   ·exact .inr (h t (List.mem_of_getElem? i) hk)
   ·exact .inl rfl
theorem fY.XB{l:List bz}(h:fY l)(a:av):fY (ny l a).1:=by
 unfold ny;split
 ·exact h
 ·split
  ·exact h
  ·exact h.set _ _ (.inl rfl)
theorem fY.abort{l:List bz}(h:fY l)(a:av):fY (pQ l a).1:=by
 unfold pQ;split
 ·exact h.settle a
 ·exact h
structure gL(B:aB):Prop extends bH B where
 rR:fY B.aK
theorem bH.put{B:aB}(h:bH B){l:List bz}{n:Nat}(i:jF l)(hn:n<4611686018427387904):bH { B with aK:=l,calls:=n } :=
 ⟨h.tr,h.me,h.hm,h.dk,i,hn,h.bR,h.told,h.eX,h.waits,h.BK⟩
theorem gL.put{B:aB}(i:gL B){l:List bz}{n:Nat}(h:jF l)(hk:fY l)(hn:n<4611686018427387904):gL { B with aK:=l,calls:=n } :=
 ⟨i.tobH.put h hn,hk⟩
theorem gL.call{B:aB}(i:gL B)(hn:B.calls+1<4611686018427387904)(c:Int){h:List bz×Int}(j:jF h.1)(hk:fY h.1):gL (lF B c h).1:=by
 unfold lF;split
 ·split
  ·exact i.put j hk hn
  ·exact i
 ·exact i
theorem gL.begin{B:aB}(i:gL B)(hn:B.calls+1<4611686018427387904){c:Int}(s:bU c):gL (pS B c).1:=by have j:=i.new;exact i.call hn c (O4 i.tx _ ⟨by simp[uk,bU],j.1,s,j.2.1,j.2.2,Iz,Iz,Iz⟩) (i.rR.add _ (.inr rfl))
theorem gL.ask{B:aB}(h:gL B)(hn:B.calls+1<4611686018427387904){k c:Int}(hk:bU k)(j:bU c){n:Nat}(u:n<18446744073709551616){f:List bc}(s:∀t∈f,iH t):gL (lF B c (s6 B.aK (p8 B k c n f))).1:=by have i:=h.new;exact h.call hn c (O4 h.tx _ ⟨hk,i.1,j,i.2.1,i.2.2,u,s,by simp[p8]⟩) (h.rR.add _ (.inl rfl))
theorem gL.keep{B:aB}(h:gL B){r:List bz×Int}(i:jF r.1)(hk:fY r.1):gL (gF B r).1:=by
 unfold gF;split
 ·exact h.put i hk h.calls
 ·exact h
theorem gL.WL{B:aB}(i:gL B){a:av}{e:List bh}(j:∀x∈e,mV x)(s:df a):gL (gF B (nv B.aK a e)).1 :=
 i.keep (Uo (l:=B.aK) i.tx ⟨2,a,0,e,eW⟩ s pd j E2 i.rR) (i.rR.WL a e)
theorem gL.XB{B:aB}(i:gL B){a:av}(j:df a):gL (gF B (ny B.aK a)).1 :=
 i.keep (Uo (l:=B.aK) i.tx ⟨3,a,0,[],eW⟩ j pd aj E2 i.rR) (i.rR.XB a)
theorem gL.abort{B:aB}(i:gL B){a:av}(j:df a):gL (gF B (pQ B.aK a)).1 :=
 i.keep (Uo (l:=B.aK) i.tx ⟨4,a,0,[],eW⟩ j pd aj E2 i.rR) (i.rR.abort a)
theorem Ub{B:aB}(h:fY B.aK)(r:Rec):fY (dt B r).1.aK:=by
 unfold dt;split
 ·split
  ·exact h
  ·show fY (if r.kind=2 then fc B.aK (ax r.e)else B.aK);split
   ·exact h.settle _
   ·exact h
 ·exact h
theorem arU{B:aB}(h:fY B.aK)(a:av):fY (nB B a).1.aK:=by
 unfold nB;split
 ·exact (Ub h _).settle _
 ·exact h
theorem atz{l:List aq}:∀ {B:aB},fY B.aK->fY (l.foldl (λb x=>(mG b x).1) B).aK:=by
 induction l with
 | nil=>intro B h;exact h
 | cons x l i=>intro B h;exact i (Ub h _)
theorem atA{kids:List bK}{l:List aq}:∀ {p:aB×List aq},fY p.1.aK->fY (l.foldl (kQ kids) p).1.aK:=by
 induction l with
 | nil=>intro p h;exact h
 | cons x l i =>
  intro p h
  refine i ?_
  unfold kQ
  repeat' split
  all_goals first|exact h|exact Ub h _|exact arU h _
theorem gL.work{B:aB}(h:gL B):gL (ic B):=by
 refine⟨Oe h.tobH,?_⟩;unfold ic;split
 ·exact atA (p:=(xI B,[])) (atz h.rR)
 ·exact h.rR
