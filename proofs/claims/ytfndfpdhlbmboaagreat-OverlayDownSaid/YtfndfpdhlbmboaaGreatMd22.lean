/-
  The walk of broker's obey (layer 20). Conditions: none.
-/
import Derived.Test.YtfndfpdhlbmboaaGreatMd21
import Derived.Test.YtfndfpdhlbmboaaGreatMdz
set_option maxRecDepth 100000
set_option linter.constructorNameAsVariable false
set_option maxHeartbeats 16000000
set_option linter.unusedVariables false
set_option linter.unusedSimpArgs false
namespace Go.Proofs.YtfndfpdhlbmboaaGreat
open Go Go.RowKit _root_.Go.Proofs.Tryz
@[local go_sem] theorem aEt {P:Program} {w:World} (a:Addr) (m:Mode) (f:Fn) (bs cs:Array Value):(store a (.func f bs cs) m).run P w=stored P w a (.func f bs cs) m:=run_store P w a _ m rfl
theorem aie:∀(x:aS) (cs:List Value) (W:World),cd.rel x cs W->cs[0]?≠some (.bool true):=λx cs W h=>by have:cs=fw x:=h;rw[this];simp
theorem asA{B n j}{l:List aK}(h:j<l.length):mA B ((n+j)%18446744073709551616) (l.drop j)=if (n+j)%18446744073709551616=B.st.list.length then (if (dz B (mX ((n+j)%18446744073709551616) l[j])).2 then mA (dz B (mX ((n+j)%18446744073709551616) l[j])).1 ((n+(j+1))%18446744073709551616) (l.drop (j+1))else B)else mA B ((n+(j+1))%18446744073709551616) (l.drop (j+1)):=by
 have e:((n+j)%18446744073709551616+1)%18446744073709551616=(n+(j+1))%18446744073709551616:=af;rw[List.drop_eq_getElem_cons h];conv=>lhs;unfold mA
 rw[e]
theorem ayG(n:Nat):IntKind.u64.wrap (n:Int)=((n%18446744073709551616:Nat):Int):=by rfl
theorem QE{m}(h:ed m=true)(j:pR m):(∀x∈m.entries,bJ x=true/\cE x)/\m.entries.length<=16/\(∀x∈m.fe,bJ x=true/\cE x)/\m.fe.length<=16/\(∀a∈m.dQ,dW a)/\m.dQ.length<=16/\(∀a∈m.ends,dW a)/\m.ends.length<=16/\m.got<18446744073709551616:=by
 grind [ed,pR,bJ,cE,dW,kY]
theorem Pg:∀ {l:List aK} {B:aZ} {n:Nat},bE B->n<18446744073709551616->(∀x∈l,cE x)->bE (mA B n l)
 | [],B,n,h,_,_=>h
 | x :: l,B,n,h,hn,hl=>by
  unfold mA;have j:=Ix h (PG hn (hl x aj));have hm:(n+1)%18446744073709551616<18446744073709551616:=Nat.mod_lt _ ax;split
  ·split
   ·exact Pg j hm λy hy=>hl y IY
   ·exact h
  ·exact Pg h hm λy hy=>hl y IY
theorem OY{B a}(h:bE B)(j:dW a):bE (jy B a)/\(jy B a).told=B.told:=by
 unfold jy;split
 ·exact⟨Ix h (Vs qA j),(FC DZ).told⟩
 ·grind
theorem UJ{B a}(h:bE B)(hl:B.told.length+1<=1000000):bE { B with told:=B.told++[a],aC:=fX B.aC a } :=
 ⟨h.tr,h.me,h.hm,h.dk,h.tx.settle _,h.calls,h.bO,WD,h.fD,h.waits,h.y6⟩
theorem Ph:∀ {l:List aK} {B:aZ} {n:Nat},(mA B n l).told=B.told
 | [],B,n=>rfl
 | x :: l,B,n=>by
  unfold mA;split
  ·split
   ·exact Ph.trans (FC Aj).told
   ·rfl
  ·exact Ph
theorem aq3{M p B w}(h:bB M p B w)(hG:bE B) m v1 v2 v3 v4 v5 v6(h1:aq oG m.cU v1 w)(h2:aq aV m.asks v2 w)(h3:Fx M (λW=>aq aV m.entries v3 W) w)(h4:Fx M (λW=>aq aV m.fe v4 W) w)(h5:Fx M (λW=>aq cd m.dQ v5 W) w)(h6:Fx M (λW=>aq cd m.ends v6 W) w)
 (hok:ed m=true) (hfit:pR m) (gV:B.told.length+m.dQ.length<=1000000) :
 Calls prog 114 #[.pointer (some ⟨p.g,0,none⟩),.agg (lA m v1 v2 v3 v4 v5 v6)] w λe w'=>e=.returned (.tuple #[])/\dK M p (rK B m) w w':=by
 have HR:Hid (rK B m=wh (m.ends.foldl jy (m.dQ.foldl nF (mA B m.got m.entries))) m.fe):=ae rfl
 have HL3:=ae (Fx.fix h3 ax Q4)
 have tU:=ae (Fx.fix h5 ax aie)
 have HL6:=ae (Fx.fix h6 ax aie)
 have H4:=ae h4
 have H:=ae h
 have HG:=ae hG
 have hlo:=λk hk=>h.low k (h.sub k hk)
 have wT:=ae hlo
 have j0:=ae hok
 have HTL:=ae gV
 have y4:=ae hfit
 have hs4:=av h4.now
 obtain⟨A1,c1,rfl⟩:=av h1
 obtain⟨A2,c2,rfl⟩:=av h2
 obtain⟨A3,c3,rfl⟩:=av h3.now
 obtain⟨A4,c4,rfl⟩:=hs4
 obtain⟨A5,c5,rfl⟩:=av h5.now
 obtain⟨A6,c6,rfl⟩:=av h6.now
 generalize rK B m=R at *
 obtain⟨g,hg⟩:∃g,Hid (g=p.g):=⟨_,ae rfl⟩
 rw[<- hg.aa]
 generalize hma:lA m (.slice A1 m.cU.length c1) (.slice A2 m.asks.length c2) (.slice A3 m.entries.length c3) (.slice A4 m.fe.length c4) (.slice A5 m.dQ.length c5) (.slice A6 m.ends.length c6)=ma at *
 have k1:=K.lW w (.cells #[.pointer (some ⟨g,0,none⟩)] 90) (.cells ma 156)
 have hb:=(ai.new w 90 #[.pointer (some ⟨g,0,none⟩)]).alloc (.cells ma 156)
 have hc:=ai.new (w.alloc (.cells #[.pointer (some ⟨g,0,none⟩)] 90)) 156 ma
 have hz1:(w.alloc (.cells #[.pointer (some ⟨g,0,none⟩)] 90)).heap.size=w.heap.size+1:=aj
 rw[hz1]at hc
 subst hma
 clear h hG hlo hok hfit gV h1 h2 h3 h4 h5 h6 hz1
 go_enter func114,ntmps114
 go_upto_region 1 with (fail)
 generalize World.alloc (World.alloc w _) _=w1 at *
 generalize jM:w.heap.size=lo at hb hc⊢
 have lQ:=ae jM
 clear jM
 have L:=hb.cells
 have qc:=hc.cells
 have ye:=L w1 (K.rf _)
 have hd:=ai.new w1 273 #[.func (.func 200) #[.pointer (some ⟨g,0,none⟩)] #[]]
 go_step3
 go_wp2_with fail
 have k2:=K.new w1 (.cells #[.func (.func 200) #[.pointer (some ⟨g,0,none⟩)] #[]] 273)
 have hb2:=hb.ay k2
 have ik:=hc.ay k2
 have hz1:=hc.lt
 generalize World.alloc w1 _=Q at *
 generalize hgd:w1.heap.size=gd at hd hz1⊢
 have HGD:=ae hgd
 have bD:=k1.tr k2
 have hnX:∀k,lo<=k->¬bw p k:=λk hk J=>by have:=wT.aa k J;have:=lQ.aa;omega
 have G:=ae hnX
 have uY:=H.aa.st bD
 have Be:Hid (∀W,ag (bw p) Q W->ag M w W):=ae λW u=>(ag.aT bD M).tr (u.more λk hk=>H.aa.sub k hk)
 have qc2:=ik.cells Q (K.rf _)
 clear hgd L qc ye hb hc hnX
 go_step3
 go_upto_block 0 with (fail)
 clear qc2
 obtain⟨wQ,wR,Kh,NW,pr,r7,Hy,xh,Mz⟩:=QE j0.aa y4.aa
 have Ki:=ae (Pg HG.aa Mz λx J=>(wQ x J).2)
 obtain⟨N,hBE⟩:∃N,Hid (N=mA B m.got m.entries):=⟨_,ae rfl⟩
 rw[<- hBE.aa]at HR Ki
 have HE1:=ae wQ
 have zC:=ae Kh
 have BC:=ae pr
 have zn:=ae Hy
 clear wQ Kh pr Hy
 have xO:=uY.now rfl (λk hk=>.inl hk) (ag.rf _ Q)
 go_cut [5,6,7]from 18 to 43 (fun _ _ _ W=>dK M p N Q W)
 case first =>
  go_wp2_with fail
  go_loopw [5,6,7,18] (fun _ _ _ i W=>∃(j:Nat) (t:aZ),j<=m.entries.length/\i=.int .i64 j/\dK M p t Q W/\bE t/\N=mA t ((m.got+j)%18446744073709551616) (m.entries.drop j)) (fun _ _ _ i _=>m.entries.length-(intOf i).toNat)
  case atStart=>exact⟨0,B,af,rfl,xO,HG.aa,by rw[hBE.aa,List.drop_zero,Nat.add_zero,Nat.mod_eq_of_lt Mz]⟩
  case round =>
   clear xO;obtain⟨j,t,hj,rfl,hN,C,zQ⟩:=hrel;obtain⟨p2,F,y,D,E⟩:=hN;have O:=(Bv D).trans hg.aa.symm;by_cases hlt:j<m.entries.length
   ·have aP:(j:Int)<m.entries.length:=af;obtain⟨b1,o1,c1',cs1,S,dq,eS,hF,hcell⟩:=HL3.aa.at j hlt ax;injection S with S _ fO;subst S fO;have HST:=ae (zQ.trans (asA hlt));have Z:=HE1.aa _ (bZ hlt);have hj6:=bz hlt wR;generalize m.entries[j]=x at *;have hcw:=hcell wr (Be.aa wr y);obtain⟨vf,ve,rfl,hf,he⟩:=hF wr (Be.aa wr y);have T:∀i,i<8->wr.cell? ⟨b1,o1+j*8+i,none⟩=(aE x vf ve)[i]?:=λi hi=>(hcw i hi).trans Array.getElem?_toList
    have q0:wr.cell? ⟨b1,o1+j*8,none⟩=some (.int .i64 x.kind):=T 0 ax;obtain⟨Af,cf,rfl⟩:=cA hf;obtain⟨Ae,ce,rfl⟩:=av he;have J:=ai.new wr 126 (aE x (.slice Af x.f.length cf) (.slice Ae x.es.length ce));have k3:=J.aU;have tS:∀n W,K wr W->p6 (mX n x) (.agg (eY (mX n x) (.slice Af x.f.length cf) (.slice Ae x.es.length ce))) W:=λn W k=>⟨_,_,rfl,eO _ _ _ _ hf k,bo he k⟩
    have uU:=ae tS;clear hcw hcell hF eS dq hf he tS zQ;go_upto_region 5 with (fail);have I:=F.st k3;have A:=y.tr (ag.aT k3 _);generalize World.alloc wr _=w3 at *;generalize s6:wr.heap.size=gx at *;clear s6 T q0;have U:=hb2.aW A (G.aa lo (aD _));have Y:=ik.aW A (G.aa (lo+1) af);have hd3:=hd.aW A (G.aa gd af);have L:=U.cell;have qc:=Y.cell;have qd:=hd3.cell;have qx:=J.cell;have hlen:=C.dk.len;have EO:IntKind.u64.wrap (j:Int)=j:=aif;have hw2:IntKind.u64.wrap ((m.got:Int)+j)=(((m.got+j)%18446744073709551616:Nat):Int):=cV;generalize hn:(m.got+j)%18446744073709551616=n at *;have GL:n<18446744073709551616:=af;have HN:=ae hn;have hw3:IntKind.u64.wrap (t.st.list.length:Int)=t.st.list.length:=aif;have HV:=ae F;have NX:=ae I;have Re:=ae λ(e:n=t.st.list.length) W (k:K w3 W)=>KH (I.st k) C (mX n x) _ (uU.aa n W (k3.tr k)) (PG GL Z.2) (vO Z.1)
    have qB:=I.blk.cell;obtain⟨Al,cl,el⟩:=av I.bK.now.list;have aAv:=Z.2;have HN3:=ae (show dK M p t Q w3 from ⟨p2,I,A,D,E⟩);have HKEY:=ae D;clear hn y F I uY Z J;obtain⟨g',gl,gd',gr,gt,vd,vr,vp,vh,vl,vq,va,vt,kM,vw,kr⟩:=p2;simp only at O qB el Re HKEY;subst O;subst el;have HG2:=ae (Ix C (PG GL aAv));have oJ:Hid ((dz t (mX n x)).2=false->(dz t (mX n x)).1=t):=ae ad0;by_cases hnl:n=t.st.list.length
    ·have HC:=ae (Re.aa hnl w3 (K.rf _));have Gu:=ae (HST.aa.trans (if_pos hnl));have HNN:=ae hnl;clear Re HST uU HV NX HN;generalize dz t (mX n x)=NB at *;obtain⟨N1,N2⟩:=NB;simp only at HC Gu HG2 oJ;go_wp2_with fail
     rw[HNN.aa]at HC;apply aM HC.aa;intro w4 zM;have vK:=ae (dK.tr A HKEY.aa E (λ_ h=>.inl h) zM);clear HC zM L qc qd qx qB;cases N2
     ·have e1:=oJ.aa rfl;subst e1;have HF:Hid (N=N1):=ae (by rw[Gu.aa];rfl);clear Gu oJ;go_wp2;go_meet;rw[HF.aa];exact vK.aa
     ·have HF:Hid (N=mA N1 ((m.got+(j+1))%18446744073709551616) (m.entries.drop (j+1))):=ae (by rw[Gu.aa];rfl);clear Gu oJ;go_wp2;go_roundw
      case rel=>exact⟨j+1,N1,af,bI,vK.aa,HG2.aa,HF.aa⟩
      case measure=>simp[intOf];omega
    ·have Gu:=ae (HST.aa.trans (if_neg hnl));clear Re HST uU HV NX HN;go_wp2;go_roundw
     case rel=>exact⟨j+1,t,af,bI,HN3.aa,C,Gu.aa⟩
     case measure=>simp[intOf];omega
   ·obtain rfl:j=m.entries.length:=af;have aP:¬(m.entries.length:Int)<m.entries.length:=af;have HF:Hid (N=t):=ae (by rw[zQ,List.drop_length];rfl);have vK:=ae (show dK M p t Q wr from ⟨p2,F,y,D,E⟩);clear zQ F y D E uY;go_wp2;go_meet;rw[HF.aa];exact vK.aa
 clear xO uY
 generalize wc=w3 at *
 have HTB:Hid (N.told.length+m.dQ.length<=1000000):=ae (by rw[hBE.aa,Ph];exact HTL.aa)
 obtain⟨BA,hBA⟩:∃BA,Hid (BA=m.dQ.foldl nF N):=⟨_,ae rfl⟩
 rw[<- hBA.aa]at HR
 have tX:=ae hcut
 obtain⟨_,_,A,_⟩:=hcut
 have Y:=ik.aW A (G.aa (lo+1) af)
 have qc:=Y.cell
 clear A Y HE1 Mz
 go_upto_block 2 with (fail)
 clear qc
 go_wp2_with fail
 go_loopw [10,48] (fun _ i W=>∃(j:Nat) (t:aZ),j<=m.dQ.length/\i=.int .i64 j/\dK M p t Q W/\bE t/\t.told.length<=N.told.length+j/\BA=(m.dQ.drop j).foldl nF t) (fun _ i _=>m.dQ.length-(intOf i).toNat)
 case atStart=>exact⟨0,N,af,rfl,tX.aa,Ki.aa,af,fP⟩
 case round =>
  obtain⟨j,t,hj,rfl,hN,C,htj,zQ⟩:=hrel;obtain⟨p2,F,y,D,E⟩:=hN;have O:=(Bv D).trans hg.aa.symm;by_cases hlt:j<m.dQ.length
  ·have aP:(j:Int)<m.dQ.length:=af;obtain⟨b1,o1,c1',cs1,S,dq,eS,hF,hcell⟩:=tU.aa.at j hlt ax;injection S with S _ fO;subst S fO;have HST:Hid (BA=(m.dQ.drop (j+1)).foldl nF (nF t m.dQ[j])):=ae aih;have Z:=BC.aa _ (bZ hlt);have gV:t.told.length+1<=1000000:=by have:=HTB.aa;omega
   generalize m.dQ[j]=a at *;have hcw:=hcell wr (Be.aa wr y);have hcs:cs1=fw a:=hF wr (Be.aa wr y);have T:∀i,i<3->wr.cell? ⟨b1,o1+j*3+i,none⟩=(dt a)[i]?:=λi hi=>(hcw i hi).trans (by rw[hcs];exact Array.getElem?_toList)
   have q0:wr.cell? ⟨b1,o1+j*3,none⟩=some (.int .i64 a.1):=T 0 ax;have J:=ai.new wr 26 (dt a);have k3:=J.aU;clear hcw hcell hF eS dq hcs zQ;go_upto_region 13 with (fail);have I:=F.st k3;have A:=y.tr (ag.aT k3 _);have hpx:=λk hk=>F.low k (.inr hk)
   have fu:∀ {k},k=lo∨k=gd∨k=wr.heap.size->¬bw p2 k:=λ{k} e hk=>by
    have h1:=hb2.lt;have h2:=hd.lt;have h3:=HGD.aa;have h4:=hpx k hk;rcases E k hk with h|h
    ·rcases e with e|e|e
     ·exact G.aa k af h
     ·exact G.aa k af h
     ·omega
    ·omega
   have aE8:¬bw p wr.heap.size:=G.aa _ (by have:=y.size;have:=hb2.lt;omega);generalize World.alloc wr _=w3 at *;generalize s6:wr.heap.size=gx at *;clear s6 T q0;have U:=hb2.aW A (G.aa lo (aD _));have hd3:=hd.aW A (G.aa gd af);have L:=U.cell;have qx:=J.cell;have HN3:=ae (show dK M p t Q w3 from ⟨p2,I,A,D,E⟩);have HKEY:=ae D;have NX:=ae I;have C3:=Uc I C a;have Tf:=ae (OY (UJ (a:=a) C gV) Z);have aAw:=ae gV;have HX1:=ae Z;have HOA:Hid (nF t a=if ue t a then t else jy { t with told:=t.told++[a],aC:=fX t.aC a } a):=ae rfl;rw[O]at C3;generalize nF t a=BO at *;clear F I;go_wp2_with fail
   apply aM C3;intro w4 k4;clear C3;cases hab:ue t a
   ·have Nb:Hid (BO=jy { t with told:=t.told++[a],aC:=fX t.aC a } a):=ae aii;have hnt:dJ t.told a=false:=by unfold ue at hab;simp only[Bool.or_eq_false_iff]at hab;exact hab.1
    have Hz:=NX.aa.st k4;have Sq:=A.tr (ag.aT k4 _);have HV4:=ae Hz;have HNT:=ae hnt;have Tg:=ae Sq;have zS:=U.ay k4;have qx4:=J.ay k4;have qt4:=Hz.axC;have qd4:=hd3.ay k4;have vH:Hid (∀ {k},k=lo∨k=gd∨k=gx->¬bw p2 k):=ae fu;have y5:=ae E;have qB4:=Hz.q;clear hab HOA L qx Hz A hnt Sq;have q1:=zS.cells;have q2:=qx4.cells;obtain⟨g',gl,gd',gr,gt,vd,vr,vp,vh,vl,vq,va,vt,kM,vw,kr⟩:=p2;simp only at O qB4 qt4 HKEY;subst O;go_wp2_with fail
    have qs:=And.intro q1 (And.intro q2 (And.intro qB4 qt4));refine dV 10 ?_;iterate 10 refine au.i ?_
    clear qs;intro V W kW hA;simp only[aO,aR,cC,aJ,Nat.reduceAdd]at hA;obtain⟨d0,d1,d2,d3,d4,d5,d6,d7,d8,d9,-⟩:=hA;obtain⟨w5,iy,NY,Dq⟩:=awb (HV4.aa.st kW) HNT.aa;simp only at iy;refine aH.skip w5 rfl (by simp[aF,List.lookup,d0,d1,d2,d3,d4,d5,d6,d7,d8,d9,execOp,aG,iy,go_sem]) ?_;refine aH.e ?_;have j8:=(zS.ay kW).aW Dq λe=>vH.aa (.inl rfl) (e ▸ .inr (.inr (.inl rfl)))
    have Bs:=(qx4.ay kW).aW Dq λe=>vH.aa (.inr (.inr rfl)) (e ▸ .inr (.inr (.inl rfl)))
    have hdW:=(qd4.ay kW).aW Dq λe=>vH.aa (.inr (.inl rfl)) (e ▸ .inr (.inr (.inl rfl)))
    have HU5:=ae ((Tg.aa.tr (ag.aT kW _)).gF Dq λk _ e=>(y5.aa k (e ▸ .inr (.inr (.inl rfl)))).resolve_right af);clear q1 q2 qB4 qt4 d0 d1 d2 d3 d4 d5 d6 d7 d8 d9 iy zS qx4 qd4 Dq;have H5:=ae NY;have C5:=ae λW (k:K w5 W)=>UI t.aC a vt W (NY.bK.at k).aC C.tx.small C.tx.AU
    have hs4:=av NY.bK.now.aC;have q2:=NY.q;have L:=j8.cells;have qx:=Bs.cells;simp only at q2 C5 hs4;obtain⟨At,ct,rfl⟩:=hs4;clear NY;go_wp2_with fail
    have qs:=And.intro q2 (And.intro L qx);refine dV 7 ?_;iterate 6 refine au.i ?_
    refine au.op (λv W'=>aX w5.heap.size w5.heap.size 128 df (fX t.aC a) v W') (λ_ _ _ h k=>h.st k) (λV W kW hp=>?_) ?_
    ·(try simp only[cF,aO,aR,bW,bY,aJ]at hp)
     simp[bR,aF,List.lookup,hp,cW,execOp,aG,q2,L,qx,go_sem];apply bS (C5.aa W kW);rintro v4 w4⟨hO,k4⟩;exact aij
    clear qs;intro V W kW hA;simp only[aO,aR,cC,aJ,Nat.reduceAdd]at hA;obtain⟨d0,d1,d2,d3,d4,d5,iA,-⟩:=hA;generalize Dl:V 6=v8 at *;have sf:=H5.aa.st kW;have iR:=iA.JY H5.aa.low;obtain⟨A8,c8,rfl⟩:=av iA.aq;have q8:=sf.blk.cell;have z8:=sf.blk.frozen;simp only at q8 z8;iterate 2 (apply aH.pure;rfl;(simp[aF,List.lookup,bj,d0,Dl,execOp,aG,go_sem];rfl))
    refine aH.skip (W.setCell ⟨g',8,none⟩ (.slice A8 (fX t.aC a).length c8)) rfl WN ?_;refine aH.e ?_;have Bz:=sf.Mm iR;have uS:ag (λk=>k=g') W (W.setCell ⟨g',8,none⟩ (.slice A8 (fX t.aC a).length c8)):=ag.bM (X:=λk=>k=g') rfl 8 _;have aY:=(j8.ay kW).aW uS λe=>vH.aa (.inl rfl) (.inl e)
    have nT:=(Bs.ay kW).aW uS λe=>vH.aa (.inr (.inr rfl)) (.inl e)
    have uZ:=(hdW.ay kW).aW uS λe=>vH.aa (.inr (.inl rfl)) (.inl e)
    have G3:=ae ((HU5.aa.tr (ag.aT kW _)).gF uS λk _ e=>(y5.aa k (.inl e)).resolve_right af);have C7:=ae (abS Bz (UJ (a:=a) C aAw.aa) a HX1.aa lo gd aY uZ);have T:=nT.cell;clear Bz uS aY nT uZ sf iR iA q8 z8 q2 L qx C5 d0 d1 d2 d3 d4 d5 Dl H5 HV4 HU5 Tg j8 Bs hdW;generalize World.setCell _ _ _=w6 at *;go_wp2_with fail
    apply aM C7.aa;intro w7 Th;have HN7:=ae (dK.tr G3.aa HKEY.aa y5.aa (λ_ h=>.inl h) Th);clear C7 T Th;go_wp2;go_roundw
    case rel=>exact⟨j+1,BO,af,bI,by rw[Nb.aa];exact HN7.aa,by rw[Nb.aa];exact Tf.aa.1,by rw[Nb.aa,Tf.aa.2];simp;omega,HST.aa⟩
    case measure=>simp[intOf];omega
   ·have HF:Hid (BO=t):=ae aii;have vK:=ae (HN3.aa.k k4);clear hab HOA L qx;go_wp2;go_roundw
    case rel=>exact⟨j+1,t,af,bI,vK.aa,C,af,by rw[HST.aa,HF.aa]⟩
    case measure=>simp[intOf];omega
  ·obtain rfl:j=m.dQ.length:=af;have aP:¬(m.dQ.length:Int)<m.dQ.length:=af;obtain rfl:BA=t:=aA;have zM:dK M p BA Q wr:=⟨p2,F,y,D,E⟩;obtain⟨BD,hBD⟩:∃BD,Hid (BD=m.ends.foldl jy BA):=⟨_,ae rfl⟩;rw[<- hBD.aa]at HR;have Y:=ik.aW y (G.aa (lo+1) af);have qc:=Y.cell;have vK:=ae zM;have aAx:=ae C;clear zQ F y D E O Y zM htj C p2 r7;generalize wr=w3 at *;go_wp2_with fail
   go_loopw [12,81] (fun _ i W=>∃(j:Nat) (t:aZ),j<=m.ends.length/\i=.int .i64 j/\dK M p t Q W/\bE t/\BD=(m.ends.drop j).foldl jy t) (fun _ i _=>m.ends.length-(intOf i).toNat)
   case atStart=>exact⟨0,BA,af,rfl,vK.aa,aAx.aa,fP⟩
   case round =>
    clear qc;obtain⟨j,t,hj,rfl,hN,C,zQ⟩:=hrel;obtain⟨p2,F,y,D,E⟩:=hN;have O:=(Bv D).trans hg.aa.symm;by_cases hlt:j<m.ends.length
    ·have aP:(j:Int)<m.ends.length:=af;obtain⟨b1,o1,c1',cs1,S,dq,eS,hF,hcell⟩:=HL6.aa.at j hlt ax;injection S with S _ fO;subst S fO;have HST:Hid (BD=(m.ends.drop (j+1)).foldl jy (jy t m.ends[j])):=ae aih;have Z:=zn.aa _ (bZ hlt);generalize m.ends[j]=a at *;have hcw:=hcell wr (Be.aa wr y);have hcs:cs1=fw a:=hF wr (Be.aa wr y);have T:∀i,i<3->wr.cell? ⟨b1,o1+j*3+i,none⟩=(dt a)[i]?:=λi hi=>(hcw i hi).trans (by rw[hcs];exact Array.getElem?_toList)
     have q0:wr.cell? ⟨b1,o1+j*3,none⟩=some (.int .i64 a.1):=T 0 ax;have J:=ai.new wr 26 (dt a);have k3:=J.aU;clear hcw hcell hF eS dq hcs zQ;go_upto_region 21 with (fail);have I:=F.st k3;have A:=y.tr (ag.aT k3 _);generalize World.alloc wr _=w3 at *;generalize s6:wr.heap.size=gx at *;clear s6 T q0;have U:=hb2.aW A (G.aa lo (aD _));have hd3:=hd.aW A (G.aa gd af);have qx:=J.cell;have C3:=ae (abS I C a Z lo gd (by rw[O];exact U) (by rw[O];exact hd3));have Tf:=ae (OY C Z);have BH:=ae A;have HKEY:=ae D;have y5:=ae E;generalize jy t a=BO at *;clear F I y A D E U hd3;go_wp2_with fail
     apply aM C3.aa;intro w4 NZ;have HN5:=ae (dK.tr BH.aa HKEY.aa y5.aa (λ_ h=>.inl h) NZ);clear C3 qx NZ;go_wp2;go_roundw
     case rel=>exact⟨j+1,BO,af,bI,HN5.aa,Tf.aa.1,HST.aa⟩
     case measure=>simp[intOf];omega
    ·obtain rfl:j=m.ends.length:=af;have aP:¬(m.ends.length:Int)<m.ends.length:=af;obtain rfl:BD=t:=aA;have U:=hb2.aW y (G.aa lo (aD _));have Y:=ik.aW y (G.aa (lo+1) af);have L:=U.cell;have qc:=Y.cell;have hfp:Fx (λk=>M k∨bw p2 k) (λW=>aq aV m.fe (.slice A4 m.fe.length c4) W) wr:=H4.aa.to (Be.aa wr y) (λ_ h=>h) λk hk h=>h.elim (λh=>h) λh=>(E k h).elim (H.aa.sub k) λh=>(by have:=bD.size;omega)
     have C8:=ae (aoX F C m.fe _ hfp zC.aa NW);rw[O]at C8;have BH:=ae y;have HKEY:=ae D;have y5:=ae E;have fy:=ae HR.aa;clear zQ F y D E U Y;go_wp2_with fail
     apply aM C8.aa;intro w4 NZ;have HN5:=ae (dK.tr BH.aa HKEY.aa y5.aa (λ_ h=>.inl h) NZ);clear C8 L qc NZ;go_wp2;rw[Exit.noGoto_normal];go_end0;refine⟨rfl,?_⟩;rw[fy.aa];exact dK.zD HN5.aa bD wT.aa
structure lH(B:aZ):Prop where
 nd:B.told.Nodup
 tf:∀a∈B.told,dW a
 rf:∀a∈B.refused,dW a
 nk:(B.bO.map (·.1)).Nodup
theorem lH.same{B B'}(h:lH B)(t:B'.told=B.told)(j:B'.refused=B.refused/\B'.bO=B.bO):lH B':=⟨by rw[t];exact h.nd,by rw[t];exact h.tf,by rw[j.1];exact h.rf,by rw[j.2];exact h.nk⟩
theorem Pu{B}(u:bE B)(h:lH B):lH (gB B):=by
 have t:=u.open';unfold gB;split
 ·have y:=Iy u λx j=>(t.2.1 x j).2
  have A:=KS (kids:=dy B) (p:=(yM B,[])) y.1 λx j=>(t.1 x j).2
  have e:=y.2.tr A.2.1;exact h.same e.told ⟨e.refused,e.bO⟩
 ·exact h
theorem acH B a:(jy B a).refused=B.refused/\(jy B a).bO=B.bO:=by
 unfold jy;split
 ·have h:=FC (B:=B) (r:=jF 5 a) DZ;exact⟨h.refused,h.bO⟩
 ·simp
theorem U3:∀ {l:List aK} {B:aZ} {n:Nat},(mA B n l).refused=B.refused/\(mA B n l).bO=B.bO
 | [],B,n=>⟨rfl,rfl⟩
 | x :: l,B,n=>by
  unfold mA;split
  ·split
   ·have h:=FC (B:=B) (r:=mX n x) Aj;have g:=U3 (l:=l) (B:=(dz B (mX n x)).1) (n:=(n+1)%18446744073709551616);exact⟨g.1.trans h.refused,g.2.trans h.bO⟩
   ·exact⟨rfl,rfl⟩
  ·exact U3
theorem aui{B a}(h:lH B)(C:bE B)(A:dW a)(u:B.told.length+1<=1000000):lH (nF B a)/\bE (nF B a)/\(nF B a).told.length<=B.told.length+1:=by
 unfold nF;split
 ·grind
 ·rename_i hn;have j:=OY (UJ (a:=a) C u) A;have t:=acH { B with told:=B.told++[a],aC:=fX B.aC a } a;have y:a∉B.told:=λD=>hn (by grind [ue,K3])
  refine⟨⟨?_,?_,?_,?_⟩,j.1,?_⟩
  ·rw[j.2];exact Pd h.nd y
  ·rw[j.2];intro b hb;rcases List.mem_append.1 hb with hb|hb
   ·exact h.tf b hb
   ·grind
  ·rw[t.1];exact h.rf
  ·rw[t.2];exact h.nk
  ·grind
theorem adg:∀ {l:List aS} {B:aZ},lH B->bE B->(∀a∈l,dW a)->B.told.length+l.length<=1000000->lH (l.foldl nF B)/\bE (l.foldl nF B)/\(l.foldl nF B).told.length<=B.told.length+l.length
 | [],B,h,hG,_,_=>⟨h,hG,aj⟩
 | a :: l,B,h,hG,hl,hn=>by simp only[fg]at hn;obtain⟨y,u,A⟩:=aui h hG (hl a aj) af;obtain⟨t,j,C⟩:=adg (l:=l) y u (λb hb=>hl b (by simp[hb])) af;exact⟨t,j,by simp only[List.foldl_cons,fg];omega⟩
theorem acI:∀ {l:List aS} {B:aZ},lH B->bE B->(∀a∈l,dW a)->lH (l.foldl jy B)/\bE (l.foldl jy B)/\(l.foldl jy B).told=B.told
 | [],B,h,hG,_=>⟨h,hG,rfl⟩
 | a :: l,B,h,hG,hl=>by
  have j:=OY hG (hl a aj);obtain⟨u,t,y⟩:=acI (l:=l) (h.same j.2 (acH B a)) j.1 λb hb=>hl b (by simp[hb])
  exact⟨u,t,y.trans j.2⟩
theorem ad1{s:dA}{y:aS}:∀ {l:List aK} {p:List aK×List aS},y∈(l.foldl (jS s) p).2->y∈p.2∨∃x∈l,y=ar x
 | [],p,h=>.inl h
 | x :: l,p,h=>by
  rcases ad1 (l:=l) h with h|⟨z,hz,e⟩
  ·unfold jS at h;exact aik
  ·exact .inr ⟨z,LC,e⟩
theorem aeE{s}:∀(l:List aK) (p:List aK×List aS),(l.foldl (jS s) p).1.length+(l.foldl (jS s) p).2.length<=p.1.length+p.2.length+l.length
 | [],p=>aj
 | x :: l,p=>by
  have t:=aeE (s:=s) l (jS s p x);have j:(jS s p x).1.length+(jS s p x).2.length<=p.1.length+p.2.length+1:=by
   unfold jS;split
   ·omega
   ·split <;> simp <;> omega
  simp only[List.foldl_cons,fg];omega
theorem Pv{y}:∀ {l:List aK} {p:aZ×List aS},((l.foldl i7 p).1.told=p.1.told/\(l.foldl i7 p).1.bO=p.1.bO)/\(y∈(l.foldl i7 p).2->y∈p.2∨∃x∈l,y=ar x)
 | [],p=>⟨⟨rfl,rfl⟩,.inl⟩
 | x :: l,p=>by
  obtain⟨t,u⟩:=Pv (y:=y) (l:=l) (p:=i7 p x);have j:((i7 p x).1.told=p.1.told/\(i7 p x).1.bO=p.1.bO)/\(y∈(i7 p x).2->y∈p.2∨y=ar x):=by
   unfold i7;split
   ·have g:=FC (B:=p.1) (r:=uI x) D4;exact⟨⟨g.told,g.bO⟩,.inl⟩
   ·exact⟨⟨rfl,rfl⟩,λh=>BX⟩
  refine⟨⟨t.1.trans j.1.1,t.2.trans j.1.2⟩,λh=>?_⟩;rcases u h with h|⟨z,hz,e⟩
  ·rcases j.2 h with h|h
   ·exact .inl h
   ·exact .inr ⟨x,aj,h⟩
  ·exact .inr ⟨z,LC,e⟩
theorem LD{x}(h:cE x):dW (ar x):=⟨h.2.1,h.2.2.2.1,h.2.2.2.2.1⟩
theorem auj{B l}(h:lH B)(F:bE B)(u:∀x∈l,cE x)(hn:l.length<=16):lH (wh B l)/\bE (wh B l)/\(wh B l).told=B.told:=by
 have hm:∀x∈mY B l,x∈l:=λx j=>(List.mem_filter.1 j).1
 have hp:∀x∈(oP B.st (mY B l)).1,x∈l:=λx j=>by rcases aca j with h|h;all_goals grind
 have C:=adf (l:=(oP B.st (mY B l)).1) (p:=(B,uJ B l++(oP B.st (mY B l)).2)) F λx j=>u x (hp x j)
 have E:=aeE (s:=B.st) (mY B l) ([],[]);have G:(mY B l).length<=l.length:=mw _ _;have H:(uJ B l).length<=l.length:=by grind [uJ]
 have A:(tC B l).1.told=B.told:=(Pv (y:=(0,0,0))).1.1;have D:(tC B l).1.bO=B.bO:=(Pv (y:=(0,0,0))).1.2;refine⟨⟨by show (tC B l).1.told.Nodup;rw[A];exact h.nd,by show ∀a∈(tC B l).1.told,_;rw[A];exact h.tf,λa t=>?_,by show ((tC B l).1.bO.map (·.1)).Nodup;rw[D];exact h.nk⟩,?_,A⟩
 ·rcases Pv.2 t with t|⟨x,j,rfl⟩
  ·rcases List.mem_append.1 t with t|t
   ·unfold uJ at t;obtain⟨x,j,rfl⟩:=List.mem_map.1 t;exact LD (u x (List.mem_filter.1 j).1)
   ·rcases ad1 t with t|⟨x,j,rfl⟩
    ·simp at t
    ·exact LD (u x (hm x j))
  ·exact LD (u x (hp x j))
 ·have g:=C.1;refine⟨g.tr,g.me,g.hm,g.dk,g.tx,g.calls,g.bO,g.told,?_,g.waits,g.y6⟩;have:=C.2;simp only[dx]at this;simp only[oP]at this;simp only[List.length_nil]at E;show (tC B l).2.length<=1000000;unfold tC oP;omega
theorem auk{B m}(h:lH B)(A:bE B)(F:ed m=true)(hfit:pR m)(T:B.told.length+m.dQ.length<=1000000):lH (rK B m)/\bE (rK B m)/\(rK B m).told.length<=B.told.length+16:=by
 obtain⟨J,S,C,G,L,W,I,V,D⟩:=QE F hfit
 have u:=Ph (l:=m.entries) (B:=B) (n:=m.got)
 have E:=h.same u (U3 (l:=m.entries) (B:=B) (n:=m.got))
 have H:=Pg A D λx j=>(J x j).2
 obtain⟨N,y,U⟩:=adg E H L aA
 obtain⟨t,M,O⟩:=acI N y I
 obtain⟨Q,X,R⟩:=auj t M (λx j=>(C x j).2) G
 grind [ed,pR,rK,wh,jy,nF,mA]
theorem asB{l k m x}(h:x∈oT l k m):x∈l∨x=(k,m):=by
 grind [oT]
theorem aul{l k m}(h:(l.map (·.1)).Nodup):((oT l k m).map (·.1)).Nodup:=by
 grind [oT]
theorem Pw{B k m}(j:bE B)(u:ed m=true)(hfit:pR m):bE { B with bO:=oT B.bO k m } :=
 ⟨j.tr,j.me,j.hm,j.dk,j.tx,j.calls,λx t=>by
  rcases asB t with h|rfl
  ·exact j.bO x h
  ·exact⟨u,hfit⟩,j.told,j.fD,j.waits,j.y6⟩
theorem acJ{B}(h:lH B)(A:bE B) j b(E:B.told.length+16<=1000000):lH (iC B j b).1/\bE (iC B j b).1/\(iC B j b).1.told.length<=B.told.length+16:=by
 unfold iC
 split
 ·split
  ·grind
  ·rename_i m hm;have t:=(Pr hm).2;have hfit:=PE hm;split
   ·have g:=Pw (k:=j) A t hfit;have f:lH { B with bO:=oT B.bO j m }:=⟨h.nd,h.tf,h.rf,aul h.nk⟩;refine⟨Pu g f,KT g,?_⟩;have y:=g.open';have C:=Iy g λx u=>(y.2.1 x u).2
    have D:=KS (kids:=dy { B with bO:=oT B.bO j m }) (p:=(yM { B with bO:=oT B.bO j m },[])) C.1 λx u=>(y.1 x u).2
    have e:(gB { B with bO:=oT B.bO j m }).told=B.told:=by
     unfold gB;split
     ·exact (C.2.tr D.2.1).told
     ·rfl
    grind
   ·split
    ·have hA:=(QE t hfit).2.2.2.2.2.1;obtain⟨H,F,G⟩:=auk h A t hfit af;grind
    grind
 grind
theorem Vu{l cs x}(h:cE x):cE (jE l cs x):=by
 grind [cE,jE]
theorem aeF{ab:List aS}{a:aS}:∀ {l:List aK} {o:List aS},a∈l.foldl (qJ ab) o->a∈o∨∃x∈l,a=ar x
 | [],o,h=>.inl h
 | x :: l,o,h=>by
  rcases aeF (l:=l) h with h|⟨z,hz,e⟩
  ·unfold qJ at h;split at h
   ·exact ail
   ·exact .inl h
  ·exact .inr ⟨z,LC,e⟩
theorem aeG{s:dA}{op:List aK}{a:aS}:∀ {l:List lN} {o:List aS},a∈l.foldl (lT s op) o->a∈o∨∃x∈l,a=x.id
 | [],o,h=>.inl h
 | x :: l,o,h=>by
  rcases aeG (l:=l) h with h|⟨z,hz,e⟩
  ·unfold lT at h;exact aik
  ·exact .inr ⟨z,LC,e⟩
theorem adh{j:List fH}{v:lN}:∀ {l:List aK} {o:List lN},v∈l.foldl (rF j) o->v∈o∨∃x∈l,v.id=ar x
 | [],o,h=>.inl h
 | x :: l,o,h=>by
  rcases adh (l:=l) h with h|⟨z,hz,e⟩
  ·unfold rF at h;split at h
   ·rcases List.mem_append.1 h with h|h
    ·exact .inl h
    ·simp at h;exact .inr ⟨x,aj,by rw[h]⟩
   ·exact .inl h
  ·exact .inr ⟨z,LC,e⟩
theorem adi{v:lN}:∀ {l:List aS} {o:List lN},v∈l.foldl mP o->v∈o∨v.id∈l
 | [],o,h=>.inl h
 | x :: l,o,h=>by
  rcases adi (l:=l) h with h|h
  ·unfold mP at h;split at h
   ·exact .inl h
   ·split at h
    ·exact .inl h
    ·rcases List.mem_append.1 h with h|h
     ·exact .inl h
     ·simp at h;exact .inr (by rw[h];simp)
  ·exact .inr IM
theorem bE.ajI{B}(u:bE B) k:(∀x∈(iX B k).asks,cE x)/\(∀v∈(iX B k).cU,dW v.id)/\(iX B k).asks.length<=16/\(iX B k).cU.length<=16/\(iX B k).got<18446744073709551616:=by
 rcases u.rep k with h|⟨h,f⟩
 ·grind [uH]
 ·simp only[ed,kY,dC,decide_eq_true_eq,xC]at h;obtain⟨⟨⟨⟨⟨⟨-,j,-⟩,t,-⟩,-⟩,-⟩,-⟩,-⟩:=h;exact⟨f.2.2.2.1,f.2.2.1,t,j,f.2.1⟩
theorem acb{B}(u:bE B) k:pR (uh B k):=by
 have C:=u.dk.inv;have D:=u.ajI k;have E:=u.dk.len;refine⟨by simp[uh,cD],?_,by simp[uh],by simp[uh],λx j=>?_,λx j=>?_,λa A=>?_,λa A=>?_⟩
 ·grind [pR,uh,pN]
 ·have j:x∈AG B (vT B k) (pN B k) (yL B.st.list (pN B k)):=j;unfold AG at j;obtain⟨y,t,rfl⟩:=List.mem_map.1 j;have:=List.fst_mem_of_mem_zipIdx t;exact Vu (C.zw _ (List.mem_of_mem_drop (om this))).2
 ·have j:x∈((if mT B then B.waits else B.st.prom).take 16).map (jE (kV B.st.list) (vT B k)):=j;obtain⟨y,t,rfl⟩:=List.mem_map.1 j;have t:=om t;split at t
  ·exact Vu (u.waits y t).2
  ·exact Vu (C.zx y t).2
 ·rcases aeF (show a∈(iX B k).asks.foldl (qJ (Cf B)) []from A)with h|⟨x,j,rfl⟩
  ·simp at h
  ·exact LD (D.1 x j)
 ·rcases aeG (show a∈(iX B k).cU.foldl (lT B.st B.waits) []from A)with h|⟨x,j,rfl⟩
  ·simp at h
  ·exact D.2.1 x j
theorem acK{B}(u:bE B)(h:lH B):pR (Ad B):=by
 have y:=u.dk.inv;have A:=u.dk.len;refine⟨by simp[Ad,cD],by show B.st.list.length<_;omega,λv j=>?_,λx t=>(u.asks t).2,QF,QF,QF,QF⟩;rcases adi (show v∈B.refused.foldl mP (B.st.prom.foldl (rF (dy B)) [])from j)with j|j
 ·rcases adh j with j|⟨x,t,e⟩
  ·grind
  ·rw[e];exact LD (y.zx x t).2
 ·exact h.rf _ j
def tc(a b:Vl):Prop:=a.1<b.1∨a.1=b.1/\(a.2.1<b.2.1∨a.2.1=b.2.1/\mI a.2.2 b.2.2=true)
theorem Pj a b:fS a b=-1/\tc a b∨fS a b=0/\a=b∨fS a b=1/\tc b a:=by
 grind [fS,iu,yV,tc,afc,mI,PQ]
theorem UK a:¬tc a a:=by
 grind [tc,UB]
theorem zW{a b c}(h:tc a b)(k:tc b c):tc a c:=by
 grind [tc,adv]
theorem K5 a b:fS a b<0↔tc a b:=by
 grind [Pj,UK,zW]
theorem IK a b:0<fS a b↔tc b a:=by
 grind [Pj,UK,zW]
theorem Px a b:fS a b=0↔a=b:=by
 grind [Pj,UK]
theorem Xk a b:fS a b<=0↔tc a b∨a=b:=by rw[<- K5,<- Px];omega
theorem QG a b:0<=fS a b↔tc b a∨a=b:=by rw[<- IK,<- Px];omega
theorem aeH a b:preB a b=true↔dX b <+: dX a:=by
 unfold preB;rw[ByteArray.toList_eq,ByteArray.toList_eq];simp only[dC,decide_eq_true_eq,beq_iff_eq,ByteArray.data_extract,Array.toList_extract,List.extract_eq_take_drop,List.drop_zero,Nat.sub_zero];have t:a.size=(dX a).length:=aj;have j:b.size=(dX b).length:=aj;rw[t,j];constructor
 ·grind
 ·grind [List.prefix_iff_eq_take]
theorem ap7{a b:List UInt8}(h:b <+: a):¬a<b:=by
 obtain⟨t,rfl⟩:=h
 induction b with
 | nil=>simp
 | cons x b j=>simp only[aR,List.cons_lt_cons_iff];intro h;rcases h with h|⟨-,h⟩;exact absurd h aj;exact j h
theorem axD{v a}(h:kp v a=true)(u:v.2.1=0)(j:a.2.1=0):¬tc v a:=by
 unfold kp at h
 simp only[dC,beq_iff_eq]at h
 obtain⟨⟨A,y⟩,t⟩:=h
 grind [tc,Lh,ap7,aeH]
theorem asC{a b c}(h:kp a b=true)(k:kp b c=true):kp a c=true:=by
 unfold kp at *
 simp only[dC,beq_iff_eq,aeH]at *
 grind
def EB(a b:dH):Bool :=
 if a.2.1=1 then jj b a.2.2
 else if a.2.1=3 then decide ((b.2.1=3∨b.2.1=4∨b.2.1=2)/\fS a.2.2 b.2.2<=0)
 else if a.2.1=4 then (if b.2.1=4 then decide (fS a.2.2 b.2.2<=0)else decide ((b.2.1=3∨b.2.1=2)/\fS a.2.2 b.2.2<0))
 else if a.2.1=5 then decide ((b.2.1=5∨b.2.1=6∨b.2.1=2)/\0<=fS a.2.2 b.2.2)
 else if a.2.1=6 then (if b.2.1=6 then decide (0<=fS a.2.2 b.2.2)else decide ((b.2.1=5∨b.2.1=2)/\0<fS a.2.2 b.2.2))
 else if a.2.1=7 then (if b.2.1=7 then kp a.2.2 b.2.2 else if b.2.1=6 then decide (0<=fS a.2.2 b.2.2)else if b.2.1=5 then decide (0<fS a.2.2 b.2.2)else if b.2.1=2 then !kp b.2.2 a.2.2 else false)
 else false
def Dr(o:Int):Bool:=decide (1<=o)&&decide (o<=8)
def qT(a b:dH):Bool :=
 if a.1≠b.1∨Dr a.2.1=false∨Dr b.2.1=false then false
 else if a=b∨b.2.1=8 then true
 else if a.2.1=8∨a.2.2.1≠b.2.2.1 then false
 else EB a b
def o6(f g:List dH):Bool:=f.all λt=>g.any λu=>qT u t
def o8:List (List dH)->List (List dH)->List (List dH)
 | out,[]=>out
 | out,f :: r=>if out.any (λs=>o6 s f)||r.any (λs=>o6 s f)then o8 out r else o8 (out++[f]) r
def sL(l:List (List dH)):List (List dH):=o8 [] l
def ky(l:List (List dH))(e:List cZ):Bool:=l.any λf=>mO f e
theorem awc{t v}(h:jj t v=true)(h8:t.2.1≠8):v.1=t.2.2.1:=by
 grind [jj]
theorem aim{v:Vl}(h:iY v.1 v.2.1 v.2.2=true)(k:v.1=2):v.2.1=0:=by
 grind [iY]
theorem aum{a b v}(O:gD a=true)(hb:gD b=true)(T:iY v.1 v.2.1 v.2.2=true)(h:qT a b=true)(j:jj a v=true):jj b v=true:=by
 unfold qT at h;split at h
 ·cases h
 split at h
 ·rename_i C;rcases C with rfl|C
  ·exact j
  ·unfold jj;simp[C]
 rename_i C;split at h
 ·cases h
 rename_i I;have E:a.2.1≠8:=λe=>I (.inl e)
 have G:b.2.1≠8:=λe=>C (.inr e)
 have hk:=Decidable.byContradiction λe=>I (.inr e)
 have H:=awc j E;have Q:=(FD O).2.2.2.2 E;have gb:=(FD hb).2.2.2.2 G;obtain⟨na,u,va⟩:=a;obtain⟨R,t,y⟩:=b;simp only at *;have S:jj (R,t,y) v=(if t==1 then fS v y==0 else if t==2 then fS v y != 0 else if t==3 then decide (fS v y<0)else if t==4 then decide (fS v y<=0)
  else if t==5 then decide (0<fS v y)else if t==6 then decide (0<=fS v y)else if t==7 then kp v y else false):=by
  unfold jj;simp[G,H,hk]
 have L:jj (na,u,va) v=(if u==1 then fS v va==0 else if u==2 then fS v va != 0 else if u==3 then decide (fS v va<0)else if u==4 then decide (fS v va<=0)
  else if u==5 then decide (0<fS v va)else if u==6 then decide (0<=fS v va)else if u==7 then kp v va else false):=by
  unfold jj;simp[E,H]
 rw[L]at j;have U:=h;unfold EB at h;simp only at h;split at h
 ·rename_i e;simp only[e,beq_self_eq_true,if_true,beq_iff_eq,Px]at j;rw[j];exact h
 rw[S];split at h
 ·rename_i e;subst e;simp at j h;rw[K5]at j;rw[Xk]at h;have A:=h.2.elim (λk=>zW j k) λk=>k▸j
  have F:=(K5 _ _).2 A;rcases h.1 with rfl|rfl|rfl <;> simp <;> omega
 split at h
 ·rename_i e;subst e;simp at j;rw[Xk]at j;split at h
  ·rename_i e;subst e;simp at h⊢;rw[Xk]at h⊢;rcases j with j|rfl
   ·exact .inl (h.elim (λk=>zW j k) λk=>k▸j)
   ·exact h
  ·simp at h;rw[K5]at h;have A:=j.elim (λk=>zW k h.2) λk=>k▸h.2
   have F:=(K5 _ _).2 A;rcases h.1 with rfl|rfl <;> simp <;> omega
 split at h
 ·rename_i e;subst e;simp at j h;rw[IK]at j;rw[QG]at h;have A:=h.2.elim (λk=>zW k j) λk=>k▸j
  have F:=(IK _ _).2 A;rcases h.1 with rfl|rfl|rfl <;> simp <;> omega
 split at h
 ·rename_i e;subst e;simp at j;rw[QG]at j;split at h
  ·rename_i e;subst e;simp at h⊢;rw[QG]at h⊢;rcases j with j|rfl
   ·exact .inl (h.elim (λk=>zW k j) λk=>k▸j)
   ·exact h
  ·simp at h;rw[IK]at h;have A:=j.elim (λk=>zW h.2 k) λk=>k▸h.2
   have F:=(IK _ _).2 A;rcases h.1 with rfl|rfl <;> simp <;> omega
 split at h
 ·rename_i e;subst e;simp at j;have D:=j;unfold kp at D;simp only[dC,beq_iff_eq]at D;have N:=aim T D.1.1;have P:=aim Q D.1.2;have M:=axD j N P;have B:tc va v∨va=v:=by
   rcases Pj va v with h|h|h
   ·exact .inl h.2
   ·exact .inr h.2
   ·exact absurd h.2 M
  split at h
  ·rename_i e;subst e;simp;exact asC j h
  split at h
  ·rename_i e;subst e;simp at h⊢;rw[QG]at h⊢;rcases B with B|rfl
   ·exact .inl (h.elim (λk=>zW k B) λk=>k▸B)
   ·exact h
  split at h
  ·rename_i e;subst e;simp at h⊢;rw[IK]at h⊢;exact B.elim (λk=>zW h k) λk=>k▸h
  split at h
  ·rename_i e;subst e;simp at h⊢;intro J;rw[Px]at J;subst J;rw[j]at h;cases h
  ·cases h
 ·cases h
theorem aq4{a b e}(u:gD a=true)(hb:gD b=true)(y:∀x∈e,ll x=true)(h:qT a b=true)(t:qD a e=true):qD b e=true:=by
 have hn:a.1=b.1:=by
  grind [gD,ll,qT,qD]
 unfold qD at *;rw[<- hn];split at t
 ·rename_i x A;have hm:=List.mem_of_find?_eq_some A;have j:=y x hm;unfold ll at j;simp only[dC]at j;exact aum u hb j.2 h t
 ·cases t
theorem ad2{f g e}(u:∀t∈f,gD t=true)(hg:∀t∈g,gD t=true)(j:∀x∈e,ll x=true)(h:o6 f g=true)(y:mO g e=true):mO f e=true:=by
 grind [o6,mO,xC,List.any_eq_true,aq4]
theorem UL{e}(y:∀x∈e,ll x=true):∀ {l out:List (List dH)},(∀f∈l,∀t∈f,gD t=true)->(∀f∈out,∀t∈f,gD t=true)->ky (o8 out l) e=(ky out e||ky l e)
 | [],out,_,_=>by simp[o8,ky]
 | f :: r,out,hl,ho=>by
  unfold o8;have A:∀g∈r,∀t∈g,gD t=true:=λg hg=>hl g (by simp[hg])
  split
  ·rename_i j;rw[UL y A ho];have B:mO f e=true->(ky out e||ky r e)=true:=by
    intro hm;rw[Bool.or_eq_true]at j⊢;unfold ky;simp only[List.any_eq_true]at j⊢;rcases j with ⟨s,u,j⟩|⟨s,u,j⟩
    ·exact .inl ⟨s,u,ad2 (ho s u) (hl f aj) y j hm⟩
    ·exact .inr ⟨s,u,ad2 (A s u) (hl f aj) y j hm⟩
   show _=(ky out e||(mO f e||ky r e));cases hm:mO f e
   ·simp
   ·rw[B hm];simp
  ·rw[UL y A (λg hg=>by
    rcases List.mem_append.1 hg with hg|hg
    ·exact ho g hg
    ·simp at hg;subst hg;exact hl g aj)]
   show (ky (out++[f]) e||ky r e)=(ky out e||(mO f e||ky r e));unfold ky;simp[List.any_append,Bool.or_assoc]
theorem asD{l e}(u:∀f∈l,∀t∈f,gD t=true)(j:∀x∈e,ll x=true):ky (sL l) e=ky l e:=by
 grind [sL,UL,ky]
theorem Vv{f:List dH}:∀ {l out:List (List dH)},f∈o8 out l->f∈out∨f∈l
 | [],out,h=>.inl h
 | g :: r,out,h=>by
  unfold o8 at h;split at h
  ·rcases Vv h with h|h
   ·exact .inl h
   ·exact .inr IM
  ·rcases Vv h with h|h
   ·rcases List.mem_append.1 h with h|h
    ·exact .inl h
    ·simp at h;subst h;exact .inr aj
   ·exact .inr IM
theorem Vw:∀ {l out:List (List dH)},(o8 out l).length<=out.length+l.length
 | [],out=>by simp[o8]
 | g :: r,out=>by
  unfold o8;split
  ·exact bn Vw aj
  ·exact bn Vw ba
abbrev tY(a b:dH)(z:Int):Array Value:=#[.string a.1,.int .i64 a.2.1,.int .i64 a.2.2.1,.int .i64 a.2.2.2.1,.string a.2.2.2.2,.string b.1,.int .i64 b.2.1,.int .i64 b.2.2.1,.int .i64 b.2.2.2.1,.string b.2.2.2.2,.int .i64 z]
def Ds(op:Int):Nat:=if op=1 then 368 else if op=3 then 369 else if op=4 then 370 else if op=5 then 371 else if op=6 then 372 else if op=7 then 373 else 374
theorem aq5 op w:Calls prog 360 #[.int .i64 op] w λe w'=>e=.returned (.func (.func (Ds op)) #[] #[])/\K w w':=by
 by_cases h1:op=1
 ·subst h1;exact I2
 by_cases h3:op=3
 ·subst h3;exact I2
 by_cases h4:op=4
 ·subst h4;exact I2
 by_cases h5:op=5
 ·subst h5;exact I2
 by_cases h6:op=6
 ·subst h6;exact I2
 by_cases h7:op=7
 ·subst h7;exact I2
 have u:(op==1)=false:=BZ;have B:(op==3)=false:=Lo;have t:(op==4)=false:=IP;have y:(op==5)=false:=Ln;have A:(op==6)=false:=QH;have j:(op==7)=false:=by simpa using h7
 have HP:Hid (Ds op=374):=ae (by simp[Ds,h1,h3,h4,h5,h6,h7]);clear h1 h3 h4 h5 h6 h7;generalize Ds op=F at *;go_enter func360,ntmps360;go_wp2;go_ret;exact⟨Xl,K.rf w⟩
theorem acL op w:Calls prog 359 #[.int .i64 op] w λe w'=>e=.returned (.bool (Dr op))/\K w w':=by
 have HR:Hid (Dr op=(decide (1<=op)&&decide (op<=8))):=ae rfl;generalize Dr op=R at *;by_cases h1:1<=op
 ·have HR:Hid (R=decide (op<=8)):=ae ain;exact aio
 ·have HR:Hid (R=false):=ae ain;exact aio
theorem ap8 a b z w:Calls prog 374 #[.agg (tY a b z)] w λe w'=>e=.returned (.bool false)/\K w w':=by have j:=K.new w (.cells (tY a b z) 381);go_enter func374,ntmps374;go_wp2;go_ret;simp_all
theorem aq6 a b z w:Calls prog 368 #[.agg (tY a b z)] w λe w'=>e=.returned (.bool (jj b a.2.2))/\K w w':=by
 have u:=K.new w (.cells (tY a b z) 381);have j:=ae λW=>aeC b a.2.2 W
 generalize jj b a.2.2=R at *;go_enter func368,ntmps368;go_wp2_with fail
 apply cG (j.aa _) u;intro A y t;clear j;go_wp2;go_ret;exact⟨rfl,t⟩
theorem aq7 a b z w:Calls prog 369 #[.agg (tY a b z)] w λe w'=>e=.returned (.bool (decide ((b.2.1=3∨b.2.1=4∨b.2.1=2)/\z<=0)))/\K w w':=by
 have k1:=K.new w (.cells (tY a b z) 381);obtain⟨B,j,A,C,u⟩:=b;have HR:Hid ((decide ((j=3∨j=4∨j=2)/\z<=0))=(decide ((j=3∨j=4∨j=2)/\z<=0))):=ae rfl;show Calls _ _ _ _ λe w'=>e=.returned (.bool (decide ((j=3∨j=4∨j=2)/\z<=0)))/\_
 clear HR;by_cases h3:j=3
 ·have HR:Hid ((decide ((j=3∨j=4∨j=2)/\z<=0))=decide (z<=0)):=ae (by subst h3;simp);generalize (decide ((j=3∨j=4∨j=2)/\z<=0))=R at *;subst h3;exact QI
 by_cases h4:j=4
 ·have HR:Hid ((decide ((j=3∨j=4∨j=2)/\z<=0))=decide (z<=0)):=ae (by subst h4;simp);generalize (decide ((j=3∨j=4∨j=2)/\z<=0))=R at *;subst h4;exact QI
 by_cases h2:j=2
 ·have HR:Hid ((decide ((j=3∨j=4∨j=2)/\z<=0))=decide (z<=0)):=ae LF;generalize (decide ((j=3∨j=4∨j=2)/\z<=0))=R at *;subst h2;exact QI
 have HR:Hid ((decide ((j=3∨j=4∨j=2)/\z<=0))=false):=ae (by simp[h3,h4,h2]);generalize (decide ((j=3∨j=4∨j=2)/\z<=0))=R at *;have D:(j==3)=false:=Lo;have y:(j==4)=false:=IP;have t:(j==2)=false:=yB;clear h3 h4 h2;exact QI
theorem apr a b z w:Calls prog 370 #[.agg (tY a b z)] w λe w'=>e=.returned (.bool (if b.2.1=4 then decide (z<=0)else decide ((b.2.1=3∨b.2.1=2)/\z<0)))/\K w w':=by
 have k1:=K.new w (.cells (tY a b z) 381);obtain⟨B,j,A,C,u⟩:=b;have HR:Hid ((if j=4 then decide (z<=0)else decide ((j=3∨j=2)/\z<0))=(if j=4 then decide (z<=0)else decide ((j=3∨j=2)/\z<0))):=ae rfl;show Calls _ _ _ _ λe w'=>e=.returned (.bool (if j=4 then decide (z<=0)else decide ((j=3∨j=2)/\z<0)))/\_
 clear HR;by_cases h4:j=4
 ·have HR:Hid ((if j=4 then decide (z<=0)else decide ((j=3∨j=2)/\z<0))=decide (z<=0)):=ae (by subst h4;simp);generalize (if j=4 then decide (z<=0)else decide ((j=3∨j=2)/\z<0))=R at *;subst h4;exact QJ
 by_cases h3:j=3
 ·have HR:Hid ((if j=4 then decide (z<=0)else decide ((j=3∨j=2)/\z<0))=decide (z<0)):=ae (by subst h3;simp);generalize (if j=4 then decide (z<=0)else decide ((j=3∨j=2)/\z<0))=R at *;subst h3;exact QJ
 by_cases h2:j=2
 ·have HR:Hid ((if j=4 then decide (z<=0)else decide ((j=3∨j=2)/\z<0))=decide (z<0)):=ae LF;generalize (if j=4 then decide (z<=0)else decide ((j=3∨j=2)/\z<0))=R at *;subst h2;exact QJ
 have HR:Hid ((if j=4 then decide (z<=0)else decide ((j=3∨j=2)/\z<0))=false):=ae (by simp[h4,h3,h2]);generalize (if j=4 then decide (z<=0)else decide ((j=3∨j=2)/\z<0))=R at *;have y:(j==4)=false:=IP;have D:(j==3)=false:=Lo;have t:(j==2)=false:=yB;clear h4 h3 h2;exact QJ
theorem aq8 a b z w:Calls prog 371 #[.agg (tY a b z)] w λe w'=>e=.returned (.bool (decide ((b.2.1=5∨b.2.1=6∨b.2.1=2)/\0<=z)))/\K w w':=by
 have k1:=K.new w (.cells (tY a b z) 381);obtain⟨C,j,y,D,u⟩:=b;have HR:Hid ((decide ((j=5∨j=6∨j=2)/\0<=z))=(decide ((j=5∨j=6∨j=2)/\0<=z))):=ae rfl;show Calls _ _ _ _ λe w'=>e=.returned (.bool (decide ((j=5∨j=6∨j=2)/\0<=z)))/\_
 clear HR;by_cases h5:j=5
 ·have HR:Hid ((decide ((j=5∨j=6∨j=2)/\0<=z))=decide (0<=z)):=ae Xm;generalize (decide ((j=5∨j=6∨j=2)/\0<=z))=R at *;subst h5;exact QK
 by_cases h6:j=6
 ·have HR:Hid ((decide ((j=5∨j=6∨j=2)/\0<=z))=decide (0<=z)):=ae Xn;generalize (decide ((j=5∨j=6∨j=2)/\0<=z))=R at *;subst h6;exact QK
 by_cases h2:j=2
 ·have HR:Hid ((decide ((j=5∨j=6∨j=2)/\0<=z))=decide (0<=z)):=ae LF;generalize (decide ((j=5∨j=6∨j=2)/\0<=z))=R at *;subst h2;exact QK
 have HR:Hid ((decide ((j=5∨j=6∨j=2)/\0<=z))=false):=ae (by simp[h5,h6,h2]);generalize (decide ((j=5∨j=6∨j=2)/\0<=z))=R at *;have A:(j==5)=false:=Ln;have B:(j==6)=false:=QH;have t:(j==2)=false:=yB;clear h5 h6 h2;exact QK
theorem aoY a b z w:Calls prog 372 #[.agg (tY a b z)] w λe w'=>e=.returned (.bool (if b.2.1=6 then decide (0<=z)else decide ((b.2.1=5∨b.2.1=2)/\0<z)))/\K w w':=by
 have k1:=K.new w (.cells (tY a b z) 381);obtain⟨C,j,y,D,u⟩:=b;have HR:Hid ((if j=6 then decide (0<=z)else decide ((j=5∨j=2)/\0<z))=(if j=6 then decide (0<=z)else decide ((j=5∨j=2)/\0<z))):=ae rfl;show Calls _ _ _ _ λe w'=>e=.returned (.bool (if j=6 then decide (0<=z)else decide ((j=5∨j=2)/\0<z)))/\_
 clear HR;by_cases h6:j=6
 ·have HR:Hid ((if j=6 then decide (0<=z)else decide ((j=5∨j=2)/\0<z))=decide (0<=z)):=ae Xn;generalize (if j=6 then decide (0<=z)else decide ((j=5∨j=2)/\0<z))=R at *;subst h6;exact QM
 by_cases h5:j=5
 ·have HR:Hid ((if j=6 then decide (0<=z)else decide ((j=5∨j=2)/\0<z))=decide (0<z)):=ae Xm;generalize (if j=6 then decide (0<=z)else decide ((j=5∨j=2)/\0<z))=R at *;subst h5;exact QM
 by_cases h2:j=2
 ·have HR:Hid ((if j=6 then decide (0<=z)else decide ((j=5∨j=2)/\0<z))=decide (0<z)):=ae LF;generalize (if j=6 then decide (0<=z)else decide ((j=5∨j=2)/\0<z))=R at *;subst h2;exact QM
 have HR:Hid ((if j=6 then decide (0<=z)else decide ((j=5∨j=2)/\0<z))=false):=ae (by simp[h6,h5,h2]);generalize (if j=6 then decide (0<=z)else decide ((j=5∨j=2)/\0<z))=R at *;have B:(j==6)=false:=QH;have A:(j==5)=false:=Ln;have t:(j==2)=false:=yB;clear h6 h5 h2;exact QM
theorem aps a b z w:Calls prog 373 #[.agg (tY a b z)] w λe w'=>e=.returned (.bool (if b.2.1=7 then kp a.2.2 b.2.2 else if b.2.1=6 then decide (0<=z)else if b.2.1=5 then decide (0<z)else if b.2.1=2 then !kp b.2.2 a.2.2 else false))/\K w w':=by
 have k1:=K.new w (.cells (tY a b z) 381);have C1:=ae λW=>Ur a.2.2 b.2.2 W
 have C2:=ae λW=>Ur b.2.2 a.2.2 W
 obtain⟨G,j,A,B,y⟩:=b;show Calls _ _ _ _ λe w'=>e=.returned (.bool (if j=7 then kp a.2.2 (A,B,y)else if j=6 then decide (0<=z)else if j=5 then decide (0<z)else if j=2 then !kp (A,B,y) a.2.2 else false))/\_
 simp only at C1 C2;generalize kp a.2.2 (A,B,y)=u at *;generalize kp (A,B,y) a.2.2=t at *;by_cases h7:j=7
 ·have HR:Hid ((if j=7 then u else if j=6 then decide (0<=z)else if j=5 then decide (0<z)else if j=2 then !t else false)=(u)):=ae (by subst h7;simp);generalize (if j=7 then u else if j=6 then decide (0<=z)else if j=5 then decide (0<z)else if j=2 then !t else false)=R at *;subst h7;go_enter func373,ntmps373;go_wp2_with fail
  apply cG (C1.aa _) k1;exact aip
 by_cases h6:j=6
 ·have HR:Hid ((if j=7 then u else if j=6 then decide (0<=z)else if j=5 then decide (0<z)else if j=2 then !t else false)=(decide (0<=z))):=ae Xn;generalize (if j=7 then u else if j=6 then decide (0<=z)else if j=5 then decide (0<z)else if j=2 then !t else false)=R at *;subst h6;exact Xo
 by_cases h5:j=5
 ·have HR:Hid ((if j=7 then u else if j=6 then decide (0<=z)else if j=5 then decide (0<z)else if j=2 then !t else false)=(decide (0<z))):=ae Xm;generalize (if j=7 then u else if j=6 then decide (0<=z)else if j=5 then decide (0<z)else if j=2 then !t else false)=R at *;subst h5;exact Xo
 by_cases h2:j=2
 ·have HR:Hid ((if j=7 then u else if j=6 then decide (0<=z)else if j=5 then decide (0<z)else if j=2 then !t else false)=(!t)):=ae LF;generalize (if j=7 then u else if j=6 then decide (0<=z)else if j=5 then decide (0<z)else if j=2 then !t else false)=R at *;subst h2;go_enter func373,ntmps373;go_wp2_with fail
  apply cG (C2.aa _) k1;exact aip
 have HR:Hid ((if j=7 then u else if j=6 then decide (0<=z)else if j=5 then decide (0<z)else if j=2 then !t else false)=false):=ae (by simp[h7,h6,h5,h2]);generalize (if j=7 then u else if j=6 then decide (0<=z)else if j=5 then decide (0<z)else if j=2 then !t else false)=R at *;have D:(j==7)=false:=by simpa using h7
 have F:(j==6)=false:=QH;have E:(j==5)=false:=Ln;have C:(j==2)=false:=yB;clear h7 h6 h5 h2 C1 C2;exact Xo
theorem asE a b w:Calls prog (Ds a.2.1) #[.agg (tY a b (fS a.2.2 b.2.2))] w λe w'=>e=.returned (.bool (EB a b))/\K w w':=by
 unfold Ds EB;split
 ·exact aq6 a b _ w
 split
 ·exact aq7 a b _ w
 split
 ·exact apr a b _ w
 split
 ·exact aq8 a b _ w
 split
 ·exact aoY a b _ w
 split
 ·exact aps a b _ w
 ·exact ap8 a b _ w
theorem aun op:∀args W,(callFunc (Ds op) args).run prog W=.ok (.enter (Ds op) args) W:=by
 intro args W
 unfold Ds
 repeat' split
 all_goals rfl
