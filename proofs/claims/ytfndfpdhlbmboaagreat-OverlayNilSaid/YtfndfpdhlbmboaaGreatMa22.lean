/-
  The walk of broker's obey (layer 20). Conditions: none.
-/
import Derived.Test.YtfndfpdhlbmboaaGreatMa21
import Derived.Test.YtfndfpdhlbmboaaGreatMz
set_option maxRecDepth 100000
set_option linter.constructorNameAsVariable false
set_option maxHeartbeats 16000000
set_option linter.unusedVariables false
set_option linter.unusedSimpArgs false
namespace Go.Proofs.YtfndfpdhlbmboaaGreat
open Go Go.RowKit _root_.Go.Proofs.Tryz
@[local go_sem] theorem aDO {P:Program} {w:World} (a:Addr) (m:Mode) (f:Fn) (bs cs:Array Value):(store a (.func f bs cs) m).run P w=stored P w a (.func f bs cs) m:=run_store P w a _ m rfl
theorem ahV:∀(x:aR) (cs:List Value) (W:World),b5.rel x cs W->cs[0]?≠some (.bool true):=λx cs W h=>by have:cs=eY x:=h;rw[this];simp
theorem ar6{B n j}{l:List aK}(h:j<l.length):lP B ((n+j)%18446744073709551616) (l.drop j)=if (n+j)%18446744073709551616=B.st.list.length then (if (cY B (mr ((n+j)%18446744073709551616) l[j])).2 then lP (cY B (mr ((n+j)%18446744073709551616) l[j])).1 ((n+(j+1))%18446744073709551616) (l.drop (j+1))else B)else lP B ((n+(j+1))%18446744073709551616) (l.drop (j+1)):=by
 have e:((n+j)%18446744073709551616+1)%18446744073709551616=(n+(j+1))%18446744073709551616:=af;rw[List.drop_eq_getElem_cons h];conv=>lhs;unfold lP
 rw[e]
theorem ajn(n:Nat):IntKind.u64.wrap (n:Int)=((n%18446744073709551616:Nat):Int):=by simp[IntKind.wrap,IntKind.signed,IntKind.bits]
theorem Qi{m}(h:dZ m=true)(E:pT m):(∀x∈m.entries,bK x=true/\cD x)/\m.entries.length<=16/\(∀x∈m.fc,bK x=true/\cD x)/\m.fc.length<=16/\(∀a∈m.dN,eu a)/\m.dN.length<=16/\(∀a∈m.ends,eu a)/\m.ends.length<=16/\m.got<18446744073709551616:=by simp only[dZ,j0,dE,decide_eq_true_eq,uO]at h;obtain⟨⟨⟨⟨⟨⟨-,-⟩,-⟩,A,B⟩,t,C⟩,c1,-⟩,d1,-⟩:=h;obtain⟨-,y,-,-,D,F,u,G⟩:=E;exact⟨λx j=>⟨B x j,D x j⟩,A,λx j=>⟨C x j,F x j⟩,t,u,c1,G,d1,y⟩
theorem OP:∀ {l:List aK} {B:bj} {n:Nat},bD B->n<18446744073709551616->(∀x∈l,cD x)->bD (lP B n l)
 | [],B,n,h,_,_=>h
 | x :: l,B,n,h,hn,hl=>by
  unfold lP;have j:=Hq h (Ph hn (hl x aj));have hm:(n+1)%18446744073709551616<18446744073709551616:=Nat.mod_lt _ ay;split
  ·split
   ·exact OP j hm λy hy=>hl y Fw
   ·exact h
  ·exact OP h hm λy hy=>hl y Fw
theorem Oy{B a}(h:bD B)(j:eu a):bD (jd B a)/\(jd B a).told=B.told:=by
 unfold jd;split
 ·exact⟨Hq h (UN pD j),(E9 Du).told⟩
 ·exact⟨h,rfl⟩
theorem T7{B a}(h:bD B)(hl:B.told.length+1<=1000000):bD { B with told:=B.told++[a],aB:=fJ B.aB a } :=
 ⟨h.tr,h.me,h.hm,h.dk,h.tx.settle _,h.calls,h.bQ,Vm,h.fe,h.waits,h.yB⟩
theorem OQ:∀ {l:List aK} {B:bj} {n:Nat},(lP B n l).told=B.told
 | [],B,n=>rfl
 | x :: l,B,n=>by
  unfold lP;split
  ·split
   ·exact OQ.trans (E9 zC).told
   ·rfl
  ·exact OQ
theorem aqF{M p B w}(h:bA M p B w)(hG:bD B) m v1 v2 v3 v4 v5 v6(h1:aq nL m.cK v1 w)(h2:aq aU m.asks v2 w)(h3:Fx M (λW=>aq aU m.entries v3 W) w)(h4:Fx M (λW=>aq aU m.fc v4 W) w)(h5:Fx M (λW=>aq b5 m.dN v5 W) w)(h6:Fx M (λW=>aq b5 m.ends v6 W) w)
 (hok:dZ m=true) (hfit:pT m) (gV:B.told.length+m.dN.length<=1000000) :
 Calls prog 114 #[.pointer (some ⟨p.g,0,none⟩),.agg (km m v1 v2 v3 v4 v5 v6)] w λe w'=>e=.returned (.tuple #[])/\dC M p (qO B m) w w':=by
 have HR:Hid (qO B m=uV (m.ends.foldl jd (m.dN.foldl mR (lP B m.got m.entries))) m.fc):=ae rfl
 have HL3:=ae (Fx.fix h3 ay QF)
 have s6:=ae (Fx.fix h5 ay ahV)
 have HL6:=ae (Fx.fix h6 ay ahV)
 have H4:=ae h4
 have H:=ae h
 have HG:=ae hG
 have hlo:=λk hk=>h.low k (h.sub k hk)
 have vW:=ae hlo
 have jO:=ae hok
 have HTL:=ae gV
 have yz:=ae hfit
 have hs4:=aw h4.now
 obtain⟨A1,c1,rfl⟩:=aw h1
 obtain⟨A2,c2,rfl⟩:=aw h2
 obtain⟨A3,c3,rfl⟩:=aw h3.now
 obtain⟨A4,c4,rfl⟩:=hs4
 obtain⟨A5,c5,rfl⟩:=aw h5.now
 obtain⟨A6,c6,rfl⟩:=aw h6.now
 generalize qO B m=R at *
 obtain⟨g,hg⟩:∃g,Hid (g=p.g):=⟨_,ae rfl⟩
 rw[<- hg.aa]
 generalize ZI:km m (.slice A1 m.cK.length c1) (.slice A2 m.asks.length c2) (.slice A3 m.entries.length c3) (.slice A4 m.fc.length c4) (.slice A5 m.dN.length c5) (.slice A6 m.ends.length c6)=ma at *
 have k1:=K.lq w (.cells #[.pointer (some ⟨g,0,none⟩)] 90) (.cells ma 156)
 have hb:=(ah.new w 90 #[.pointer (some ⟨g,0,none⟩)]).alloc (.cells ma 156)
 have hc:=ah.new (w.alloc (.cells #[.pointer (some ⟨g,0,none⟩)] 90)) 156 ma
 have hz1:(w.alloc (.cells #[.pointer (some ⟨g,0,none⟩)] 90)).heap.size=w.heap.size+1:=aj
 rw[hz1]at hc
 subst ZI
 clear h hG hlo hok hfit gV h1 h2 h3 h4 h5 h6 hz1
 go_enter func114,ntmps114
 go_upto_region 1 with (fail)
 generalize World.alloc (World.alloc w _) _=w1 at *
 generalize kp:w.heap.size=lo at hb hc⊢
 have lG:=ae kp
 clear kp
 have L:=hb.cells
 have qc:=hc.cells
 have xG:=L w1 (K.rf _)
 have hd:=ah.new w1 273 #[.func (.func 200) #[.pointer (some ⟨g,0,none⟩)] #[]]
 go_step3
 go_wp2_with fail
 have k2:=K.new w1 (.cells #[.func (.func 200) #[.pointer (some ⟨g,0,none⟩)] #[]] 273)
 have hb2:=hb.av k2
 have gS:=hc.av k2
 have hz1:=hc.lt
 generalize World.alloc w1 _=S at *
 generalize hgd:w1.heap.size=gd at hd hz1⊢
 have HGD:=ae hgd
 have bC:=k1.tr k2
 have hnX:∀k,lo<=k->¬bw p k:=λk hk G=>by have:=vW.aa k G;have:=lG.aa;omega
 have J:=ae hnX
 have tY:=H.aa.st bC
 have AA:Hid (∀W,ag (bw p) S W->ag M w W):=ae λW u=>(ag.aT bC M).tr (u.more λk hk=>H.aa.sub k hk)
 have qc2:=gS.cells S (K.rf _)
 clear hgd L qc xG hb hc hnX
 go_step3
 go_upto_block 0 with (fail)
 clear qc2
 obtain⟨vU,vV,JO,Nv,oG,rm,G1,Nw,Mb⟩:=Qi jO.aa yz.aa
 have JQ:=ae (OP HG.aa Mb λx G=>(vU x G).2)
 obtain⟨Q,Z1⟩:∃Q,Hid (Q=lP B m.got m.entries):=⟨_,ae rfl⟩
 rw[<- Z1.aa]at HR JQ
 have HE1:=ae vU
 have Ey:=ae JO
 have GV:=ae oG
 have yO:=ae G1
 clear vU JO oG G1
 have xf:=tY.now rfl (λk hk=>.inl hk) (ag.rf _ S)
 go_cut [5,6,7]from 18 to 43 (fun _ _ _ W=>dC M p Q S W)
 case first =>
  go_wp2_with fail
  go_loopw [5,6,7,18] (fun _ _ _ i W=>∃(j:Nat) (t:bj),j<=m.entries.length/\i=.int .i64 j/\dC M p t S W/\bD t/\Q=lP t ((m.got+j)%18446744073709551616) (m.entries.drop j)) (fun _ _ _ i _=>m.entries.length-(intOf i).toNat)
  case atStart=>exact⟨0,B,af,rfl,xf,HG.aa,by rw[Z1.aa,QO,Nat.add_zero,Nat.mod_eq_of_lt Mb]⟩
  case round =>
   clear xf;obtain⟨j,t,hj,rfl,hN,D,zi⟩:=hrel;obtain⟨p2,E,y,C,F⟩:=hN;have N:=(AW C).trans hg.aa.symm;by_cases hlt:j<m.entries.length
   ·have aP:(j:Int)<m.entries.length:=af;obtain⟨b1,o1,c1',cs1,O,dA,eJ,hF,hcell⟩:=HL3.aa.at j hlt ay;injection O with O _ fD;subst O fD;have HST:=ae (zi.trans (ar6 hlt));have Y:=HE1.aa _ (bS hlt);have hj6:=bz hlt vV;generalize m.entries[j]=x at *;have hcw:=hcell wr (AA.aa wr y);obtain⟨vf,ve,rfl,hf,he⟩:=hF wr (AA.aa wr y);have Z:∀i,i<8->wr.cell? ⟨b1,o1+j*8+i,none⟩=(aD x vf ve)[i]?:=λi hi=>(hcw i hi).trans Array.getElem?_toList
    have q0:wr.cell? ⟨b1,o1+j*8,none⟩=some (.int .i64 x.kind):=Z 0 ay;obtain⟨Af,cf,rfl⟩:=b6 hf;obtain⟨Ae,ce,rfl⟩:=aw he;have G:=ah.new wr 126 (aD x (.slice Af x.f.length cf) (.slice Ae x.es.length ce));have k3:=G.aS;have sX:∀n W,K wr W->pk (mr n x) (.agg (eS (mr n x) (.slice Af x.f.length cf) (.slice Ae x.es.length ce))) W:=λn W k=>⟨_,_,rfl,eH _ _ _ _ hf k,bo he k⟩
    have tV:=ae sX;clear hcw hcell hF eJ dA hf he sX zi;go_upto_region 5 with (fail);have I:=E.st k3;have A:=y.tr (ag.aT k3 _);generalize World.alloc wr _=w3 at *;generalize s5:wr.heap.size=gx at *;clear s5 Z q0;have bG:=hb2.aX A (J.aa lo (aC _));have T:=gS.aX A (J.aa (lo+1) af);have hd3:=hd.aX A (J.aa gd WG);have L:=bG.cell;have qc:=T.cell;have qd:=hd3.cell;have U:=G.cell;have hlen:=D.dk.len;have Ek:IntKind.u64.wrap (j:Int)=j:=ahW;have hw2:IntKind.u64.wrap ((m.got:Int)+j)=(((m.got+j)%18446744073709551616:Nat):Int):=by rw[<- Int.natCast_add,ajn]
    generalize hn:(m.got+j)%18446744073709551616=n at *;have Gi:n<18446744073709551616:=by rw[<- hn];exact Nat.mod_lt _ (by decide)
    have hw3:IntKind.u64.wrap (t.st.list.length:Int)=t.st.list.length:=ahW;have HV:=ae E;have Nx:=ae I;have QP:=ae λ(e:n=t.st.list.length) W (k:K w3 W)=>Kc (I.st k) D (mr n x) _ (tV.aa n W (k3.tr k)) (Ph Gi Y.2) (uy Y.1)
    have qB:=I.blk.cell;obtain⟨Al,cl,el⟩:=aw I.bI.now.list;have az9:=Y.2;have Z2:=ae (show dC M p t S w3 from ⟨p2,I,A,C,F⟩);have HKEY:=ae C;clear hn y E I tY Y G;obtain⟨g',gl,gd',gr,gt,vd,vr,vp,vh,vl,vq,va,vt,jN,vw,kr⟩:=p2;simp only at N qB el QP HKEY;subst N;subst el;have HG2:=ae (Hq D (Ph Gi az9));have nO:Hid ((cY t (mr n x)).2=false->(cY t (mr n x)).1=t):=ae ady;by_cases hnl:n=t.st.list.length
    ·have HC:=ae (QP.aa hnl w3 (K.rf _));have FZ:=ae (HST.aa.trans (if_pos hnl));have HNN:=ae hnl;clear QP HST tV HV Nx;generalize cY t (mr n x)=NB at *;obtain⟨N1,N2⟩:=NB;simp only at HC FZ HG2 nO;go_wp2_with fail
     rw[HNN.aa]at HC;refine HC.aa.mono ?_;rintro e w4⟨rfl,ze⟩;have ur:=ae (dC.tr A HKEY.aa F (λ_ h=>.inl h) ze);clear HC ze L qc qd U qB;cases N2
     ·have e1:=nO.aa rfl;subst e1;have HF:Hid (Q=N1):=ae (by rw[FZ.aa];rfl);clear FZ nO;go_wp2;go_meet;rw[HF.aa];exact ur.aa
     ·have HF:Hid (Q=lP N1 ((m.got+(j+1))%18446744073709551616) (m.entries.drop (j+1))):=ae (by rw[FZ.aa];rfl);clear FZ nO;go_wp2;go_roundw
      case rel=>exact⟨j+1,N1,af,bJ,ur.aa,HG2.aa,HF.aa⟩
      case measure=>simp[intOf];omega
    ·have FZ:=ae (HST.aa.trans (if_neg hnl));clear QP HST tV HV Nx;go_wp2;go_roundw
     case rel=>exact⟨j+1,t,af,bJ,Z2.aa,D,FZ.aa⟩
     case measure=>simp[intOf];omega
   ·obtain rfl:j=m.entries.length:=af;have aP:¬(m.entries.length:Int)<m.entries.length:=af;have HF:Hid (Q=t):=ae WH;have ur:=ae (show dC M p t S wr from ⟨p2,E,y,C,F⟩);clear zi E y C F tY;go_wp2;go_meet;rw[HF.aa];exact ur.aa
 clear xf tY
 generalize wc=w3 at *
 have HTB:Hid (Q.told.length+m.dN.length<=1000000):=ae (by rw[Z1.aa,OQ];exact HTL.aa)
 obtain⟨BA,hBA⟩:∃BA,Hid (BA=m.dN.foldl mR Q):=⟨_,ae rfl⟩
 rw[<- hBA.aa]at HR
 have tc:=ae hcut
 obtain⟨_,_,A,_⟩:=hcut
 have T:=gS.aX A (J.aa (lo+1) af)
 have qc:=T.cell
 clear A T HE1 Mb
 go_upto_block 2 with (fail)
 clear qc
 go_wp2_with fail
 go_loopw [10,48] (fun _ i W=>∃(j:Nat) (t:bj),j<=m.dN.length/\i=.int .i64 j/\dC M p t S W/\bD t/\t.told.length<=Q.told.length+j/\BA=(m.dN.drop j).foldl mR t) (fun _ i _=>m.dN.length-(intOf i).toNat)
 case atStart=>exact⟨0,Q,af,rfl,tc.aa,JQ.aa,af,by rw[hBA.aa,QO]⟩
 case round =>
  obtain⟨j,t,hj,rfl,hN,D,htj,zi⟩:=hrel;obtain⟨p2,E,y,C,F⟩:=hN;have N:=(AW C).trans hg.aa.symm;by_cases hlt:j<m.dN.length
  ·have aP:(j:Int)<m.dN.length:=af;obtain⟨b1,o1,c1',cs1,O,dA,eJ,hF,hcell⟩:=s6.aa.at j hlt ay;injection O with O _ fD;subst O fD;have HST:Hid (BA=(m.dN.drop (j+1)).foldl mR (mR t m.dN[j])):=ae ahX;have Y:=GV.aa _ (bS hlt);have gV:t.told.length+1<=1000000:=by have:=HTB.aa;omega
   generalize m.dN[j]=a at *;have hcw:=hcell wr (AA.aa wr y);have hcs:cs1=eY a:=hF wr (AA.aa wr y);have Z:∀i,i<3->wr.cell? ⟨b1,o1+j*3+i,none⟩=(df a)[i]?:=λi hi=>(hcw i hi).trans (by rw[hcs];exact Array.getElem?_toList)
   have q0:wr.cell? ⟨b1,o1+j*3,none⟩=some (.int .i64 a.1):=Z 0 ay;have G:=ah.new wr 26 (df a);have k3:=G.aS;clear hcw hcell hF eJ dA hcs zi;go_upto_region 13 with (fail);have I:=E.st k3;have A:=y.tr (ag.aT k3 _);have hpx:=λk hk=>E.low k (.inr hk)
   have sQ:∀ {k},k=lo∨k=gd∨k=wr.heap.size->¬bw p2 k:=λ{k} e hk=>by
    have h1:=hb2.lt;have h2:=hd.lt;have h3:=HGD.aa;have h4:=hpx k hk;rcases F k hk with h|h
    ·rcases e with e|e|e
     ·exact J.aa k af h
     ·exact J.aa k af h
     ·omega
    ·omega
   generalize World.alloc wr _=w3 at *;generalize s5:wr.heap.size=gx at *;clear s5 Z q0;have bG:=hb2.aX A (J.aa lo (aC _));have hd3:=hd.aX A (J.aa gd WG);have L:=bG.cell;have U:=G.cell;have Z2:=ae (show dC M p t S w3 from ⟨p2,I,A,C,F⟩);have HKEY:=ae C;have Nx:=ae I;have C3:=Tx I D a;have SK:=ae (Oy (T7 (a:=a) D gV) Y);have aAa:=ae gV;have HX1:=ae Y;have Z3:Hid (mR t a=if tu t a then t else jd { t with told:=t.told++[a],aB:=fJ t.aB a } a):=ae rfl;rw[N]at C3;generalize mR t a=BO at *;clear E I;go_wp2_with fail
   refine C3.mono ?_;rintro e w4⟨rfl,k4⟩;clear C3;cases hab:tu t a
   ·have MO:Hid (BO=jd { t with told:=t.told++[a],aB:=fJ t.aB a } a):=ae ahY;have hnt:dG t.told a=false:=by unfold tu at hab;simp only[Bool.or_eq_false_iff]at hab;exact hab.1
    have G2:=Nx.aa.st k4;have RU:=A.tr (ag.aT k4 _);have HV4:=ae G2;have HNT:=ae hnt;have SL:=ae RU;have zj:=bG.av k4;have Z4:=G.av k4;have Z5:=G2.awW;have qd4:=hd3.av k4;have zf:Hid (∀ {k},k=lo∨k=gd∨k=gx->¬bw p2 k):=ae sQ;have yA:=ae F;have Z6:=G2.q;clear hab Z3 L U G2 A hnt RU;have q1:=zj.cells;have q2:=Z4.cells;obtain⟨g',gl,gd',gr,gt,vd,vr,vp,vh,vl,vq,va,vt,jN,vw,kr⟩:=p2;simp only at N Z6 Z5 HKEY;subst N;go_wp2_with fail
    have qs:=And.intro q1 (And.intro q2 (And.intro Z6 Z5));refine dD 10 [([],[]),([0],[(55,0)]),([1],[(56,1)]),([2],[(57,2)]),([],[]),([],[]),([5],[(60,5)]),([6],[(61,6)]),([7],[(62,7)]),([8],[(63,8)]),([0,1,2,3,4,5,6,7,8,9],[(58,3),(59,4),(64,9)])] 93 ?_;iterate 10 refine au.i ?_
    clear qs;intro V W kW hA;simp only[aO,aQ,cz,aJ,Nat.reduceAdd]at hA;obtain⟨d0,d1,d2,d3,d4,d5,d6,d7,d8,d9,-⟩:=hA;obtain⟨w5,ie,Ny,Cz⟩:=avF (HV4.aa.st kW) HNT.aa;simp only at ie;refine aH.skip w5 rfl (by simp[aE,List.lookup,d0,d1,d2,d3,d4,d5,d6,d7,d8,d9,execOp,aF,ie,go_sem]) ?_;refine aH.e ?_;have jB:=(zj.av kW).aX Cz λe=>zf.aa (.inl rfl) (e ▸ .inr (.inr (.inl rfl)))
    have AR:=(Z4.av kW).aX Cz λe=>zf.aa (.inr (.inr rfl)) (e ▸ .inr (.inr (.inl rfl)))
    have hdW:=(qd4.av kW).aX Cz λe=>zf.aa (.inr (.inl rfl)) (e ▸ .inr (.inr (.inl rfl)))
    have HU5:=ae ((SL.aa.tr (ag.aT kW _)).gg Cz λk _ e=>(yA.aa k (e ▸ .inr (.inr (.inl rfl)))).resolve_right af);clear q1 q2 Z6 Z5 d0 d1 d2 d3 d4 d5 d6 d7 d8 d9 ie zj Z4 qd4 Cz;have G3:=ae Ny;have C5:=ae λW (k:K w5 W)=>T6 t.aB a vt W (Ny.bI.at k).aB D.tx.small D.tx.zW
    have hs4:=aw Ny.bI.now.aB;have q2:=Ny.q;have L:=jB.cells;have U:=AR.cells;simp only at q2 C5 hs4;obtain⟨At,ct,rfl⟩:=hs4;clear Ny;go_wp2_with fail
    have qs:=And.intro q2 (And.intro L U);refine dD 7 [([],[]),([],[]),([1],[(66,1)]),([2],[(67,2)]),([3],[(68,3)]),([],[]),([4,5],[(69,4),(70,5)]),([0,1,2,3,4,5,6],[(65,0)]),([0,1,2,3,4,5,6,7],[(72,7)]),([0,1,2,3,4,5,6,8],[(73,8),(71,6)])] 93 ?_;iterate 6 refine au.i ?_
    refine au.op (λv W'=>aV w5.heap.size w5.heap.size 128 cW (fJ t.aB a) v W') (λ_ _ _ h k=>h.st k) (λV W kW hp=>?_) ?_
    ·(try simp only[cd,aO,aQ,bW,bY,aJ]at hp)
     simp[bP,aE,List.lookup,hp,cN,execOp,aF,q2,L,U,go_sem];exact Wb
    clear qs;intro V W kW hA;simp only[aO,aQ,cz,aJ,Nat.reduceAdd]at hA;obtain⟨d0,d1,d2,d3,d4,d5,ij,-⟩:=hA;generalize Cu:V 6=v8 at *;have ry:=G3.aa.st kW;have iB:=ij.Jv G3.aa.low;obtain⟨A8,c8,rfl⟩:=aw ij.aq;have q8:=ry.blk.cell;have z8:=ry.blk.frozen;simp only at q8 z8;iterate 2 (apply aH.pure;rfl;(simp[aE,List.lookup,ba,d0,Cu,execOp,aF,go_sem];rfl))
    refine aH.skip (W.setCell ⟨g',8,none⟩ (.slice A8 (fJ t.aB a).length c8)) rfl Wc ?_;refine aH.e ?_;have AY:=ry.LO iB;have uS:ag (λk=>k=g') W (W.setCell ⟨g',8,none⟩ (.slice A8 (fJ t.aB a).length c8)):=ag.bL (X:=λk=>k=g') rfl 8 _;have aZ:=(jB.av kW).aX uS λe=>zf.aa (.inl rfl) (.inl e)
    have nj:=(AR.av kW).aX uS λe=>zf.aa (.inr (.inr rfl)) (.inl e)
    have tZ:=(hdW.av kW).aX uS λe=>zf.aa (.inr (.inl rfl)) (.inl e)
    have Gx:=ae ((HU5.aa.tr (ag.aT kW _)).gg uS λk _ e=>(yA.aa k (.inl e)).resolve_right af);have C7:=ae (abr AY (T7 (a:=a) D aAa.aa) a HX1.aa lo gd aZ tZ);have Z:=nj.cell;clear AY uS aZ nj tZ ry iB ij q8 z8 q2 L U C5 d0 d1 d2 d3 d4 d5 Cu G3 HV4 HU5 SL jB AR hdW;generalize World.setCell _ _ _=w6 at *;go_wp2_with fail
    refine C7.aa.mono ?_;rintro e w7⟨rfl,SN⟩;have HN7:=ae (dC.tr Gx.aa HKEY.aa yA.aa (λ_ h=>.inl h) SN);clear C7 Z SN;go_wp2;go_roundw
    case rel=>exact⟨j+1,BO,af,bJ,by rw[MO.aa];exact HN7.aa,by rw[MO.aa];exact SK.aa.1,by rw[MO.aa,SK.aa.2];simp;omega,HST.aa⟩
    case measure=>simp[intOf];omega
   ·have HF:Hid (BO=t):=ae ahY;have ur:=ae (Z2.aa.k k4);clear hab Z3 L U;go_wp2;go_roundw
    case rel=>exact⟨j+1,t,af,bJ,ur.aa,D,af,by rw[HST.aa,HF.aa]⟩
    case measure=>simp[intOf];omega
  ·obtain rfl:j=m.dN.length:=af;have aP:¬(m.dN.length:Int)<m.dN.length:=af;obtain rfl:BA=t:=WH;have ze:dC M p BA S wr:=⟨p2,E,y,C,F⟩;obtain⟨BD,hBD⟩:∃BD,Hid (BD=m.ends.foldl jd BA):=⟨_,ae rfl⟩;rw[<- hBD.aa]at HR;have T:=gS.aX y (J.aa (lo+1) af);have qc:=T.cell;have ur:=ae ze;have aAb:=ae D;clear zi E y C F N T ze htj D p2 rm;generalize wr=w3 at *;go_wp2_with fail
   go_loopw [12,81] (fun _ i W=>∃(j:Nat) (t:bj),j<=m.ends.length/\i=.int .i64 j/\dC M p t S W/\bD t/\BD=(m.ends.drop j).foldl jd t) (fun _ i _=>m.ends.length-(intOf i).toNat)
   case atStart=>exact⟨0,BA,af,rfl,ur.aa,aAb.aa,by rw[hBD.aa,QO]⟩
   case round =>
    clear qc;obtain⟨j,t,hj,rfl,hN,D,zi⟩:=hrel;obtain⟨p2,E,y,C,F⟩:=hN;have N:=(AW C).trans hg.aa.symm;by_cases hlt:j<m.ends.length
    ·have aP:(j:Int)<m.ends.length:=af;obtain⟨b1,o1,c1',cs1,O,dA,eJ,hF,hcell⟩:=HL6.aa.at j hlt ay;injection O with O _ fD;subst O fD;have HST:Hid (BD=(m.ends.drop (j+1)).foldl jd (jd t m.ends[j])):=ae ahX;have Y:=yO.aa _ (bS hlt);generalize m.ends[j]=a at *;have hcw:=hcell wr (AA.aa wr y);have hcs:cs1=eY a:=hF wr (AA.aa wr y);have Z:∀i,i<3->wr.cell? ⟨b1,o1+j*3+i,none⟩=(df a)[i]?:=λi hi=>(hcw i hi).trans (by rw[hcs];exact Array.getElem?_toList)
     have q0:wr.cell? ⟨b1,o1+j*3,none⟩=some (.int .i64 a.1):=Z 0 ay;have G:=ah.new wr 26 (df a);have k3:=G.aS;clear hcw hcell hF eJ dA hcs zi;go_upto_region 21 with (fail);have I:=E.st k3;have A:=y.tr (ag.aT k3 _);generalize World.alloc wr _=w3 at *;generalize s5:wr.heap.size=gx at *;clear s5 Z q0;have bG:=hb2.aX A (J.aa lo (aC _));have hd3:=hd.aX A (J.aa gd WG);have U:=G.cell;have C3:=ae (abr I D a Y lo gd (by rw[N];exact bG) (by rw[N];exact hd3));have SK:=ae (Oy D Y);have Bd:=ae A;have HKEY:=ae C;have yA:=ae F;generalize jd t a=BO at *;clear E I y A C F bG hd3;go_wp2_with fail
     refine C3.aa.mono ?_;rintro e w4⟨rfl,Nz⟩;have Z7:=ae (dC.tr Bd.aa HKEY.aa yA.aa (λ_ h=>.inl h) Nz);clear C3 U Nz;go_wp2;go_roundw
     case rel=>exact⟨j+1,BO,af,bJ,Z7.aa,SK.aa.1,HST.aa⟩
     case measure=>simp[intOf];omega
    ·obtain rfl:j=m.ends.length:=af;have aP:¬(m.ends.length:Int)<m.ends.length:=af;obtain rfl:BD=t:=WH;have bG:=hb2.aX y (J.aa lo (aC _));have T:=gS.aX y (J.aa (lo+1) af);have L:=bG.cell;have qc:=T.cell;have hfp:Fx (λk=>M k∨bw p2 k) (λW=>aq aU m.fc (.slice A4 m.fc.length c4) W) wr:=H4.aa.to (AA.aa wr y) (λ_ h=>h) λk hk h=>h.elim (λh=>h) λh=>(F k h).elim (H.aa.sub k) λh=>(by have:=bC.size;omega)
     have C8:=ae (aoz E D m.fc _ hfp Ey.aa Nv);rw[N]at C8;have Bd:=ae y;have HKEY:=ae C;have yA:=ae F;have eZ:=ae HR.aa;clear zi E y C F bG T;go_wp2_with fail
     refine C8.aa.mono ?_;rintro e w4⟨rfl,Nz⟩;have Z7:=ae (dC.tr Bd.aa HKEY.aa yA.aa (λ_ h=>.inl h) Nz);clear C8 L qc Nz;go_wp2;rw[Exit.noGoto_normal];go_end0;refine⟨rfl,?_⟩;rw[eZ.aa];exact dC.y4 Z7.aa bC vW.aa
structure kN(B:bj):Prop where
 nd:B.told.Nodup
 tf:∀a∈B.told,eu a
 rf:∀a∈B.refused,eu a
 nk:(B.bQ.map (·.1)).Nodup
theorem kN.same{B B'}(h:kN B)(j:B'.told=B.told)(t:B'.refused=B.refused/\B'.bQ=B.bQ):kN B':=⟨by rw[j];exact h.nd,by rw[j];exact h.tf,by rw[t.1];exact h.rf,by rw[t.2];exact h.nk⟩
theorem O3{B}(u:bD B)(h:kN B):kN (gZ B):=by
 have y:=u.open';unfold gZ;split
 ·have t:=Hr u λx j=>(y.2.1 x j).2
  have A:=Kl (kids:=dy B) (p:=(zK B,[])) t.1 λx j=>(y.1 x j).2
  have e:=t.2.tr A.2.1;exact h.same e.told ⟨e.refused,e.bQ⟩
 ·exact h
theorem ace B a:(jd B a).refused=B.refused/\(jd B a).bQ=B.bQ:=by
 unfold jd;split
 ·have h:=E9 (B:=B) (r:=jj 5 a) Du;exact⟨h.refused,h.bQ⟩
 ·simp
theorem Ur:∀ {l:List aK} {B:bj} {n:Nat},(lP B n l).refused=B.refused/\(lP B n l).bQ=B.bQ
 | [],B,n=>⟨rfl,rfl⟩
 | x :: l,B,n=>by
  unfold lP;split
  ·split
   ·have h:=E9 (B:=B) (r:=mr n x) zC;have g:=Ur (l:=l) (B:=(cY B (mr n x)).1) (n:=(n+1)%18446744073709551616);exact⟨g.1.trans h.refused,g.2.trans h.bQ⟩
   ·exact⟨rfl,rfl⟩
  ·exact Ur
theorem atO{B a}(h:kN B)(u:bD B)(y:eu a)(A:B.told.length+1<=1000000):kN (mR B a)/\bD (mR B a)/\(mR B a).told.length<=B.told.length+1:=by
 unfold mR;split
 ·grind
 ·rename_i hn;have j:=Oy (T7 (a:=a) u A) y;have t:=ace { B with told:=B.told++[a],aB:=fJ B.aB a } a;have C:a∉B.told:=λD=>hn (by grind [tu,Kz])
  refine⟨⟨?_,?_,?_,?_⟩,j.1,?_⟩
  ·rw[j.2];exact OL h.nd C
  ·rw[j.2];intro b hb;rcases List.mem_append.1 hb with hb|hb
   ·exact h.tf b hb
   ·grind
  ·rw[t.1];exact h.rf
  ·rw[t.2];exact h.nk
  ·grind
theorem acN:∀ {l:List aR} {B:bj},kN B->bD B->(∀a∈l,eu a)->B.told.length+l.length<=1000000->kN (l.foldl mR B)/\bD (l.foldl mR B)/\(l.foldl mR B).told.length<=B.told.length+l.length
 | [],B,h,hG,_,_=>⟨h,hG,aj⟩
 | a :: l,B,h,hG,hl,hn=>by simp only[eQ]at hn;obtain⟨j,t,C⟩:=atO h hG (hl a aj) af;obtain⟨u,y,A⟩:=acN (l:=l) j t (λb hb=>hl b PS) af;exact⟨u,y,by simp only[List.foldl_cons,eQ];omega⟩
theorem acf:∀ {l:List aR} {B:bj},kN B->bD B->(∀a∈l,eu a)->kN (l.foldl jd B)/\bD (l.foldl jd B)/\(l.foldl jd B).told=B.told
 | [],B,h,hG,_=>⟨h,hG,rfl⟩
 | a :: l,B,h,hG,hl=>by
  have j:=Oy hG (hl a aj);obtain⟨u,y,t⟩:=acf (l:=l) (h.same j.2 (ace B a)) j.1 λb hb=>hl b PS
  exact⟨u,y,t.trans j.2⟩
theorem adz{s:dc}{y:aR}:∀ {l:List aK} {p:List aK×List aR},y∈(l.foldl (iN s) p).2->y∈p.2∨∃x∈l,y=ar x
 | [],p,h=>.inl h
 | x :: l,p,h=>by
  rcases adz (l:=l) h with h|⟨z,hz,e⟩
  ·unfold iN at h;exact ahZ
  ·exact .inr ⟨z,La,e⟩
theorem aee{s}:∀(l:List aK) (p:List aK×List aR),(l.foldl (iN s) p).1.length+(l.foldl (iN s) p).2.length<=p.1.length+p.2.length+l.length
 | [],p=>aj
 | x :: l,p=>by
  have j:=aee (s:=s) l (iN s p x);have t:(iN s p x).1.length+(iN s p x).2.length<=p.1.length+p.2.length+1:=by
   unfold iN;split
   ·omega
   ·split <;> simp <;> omega
  exact Wu
theorem O4{y}:∀ {l:List aK} {p:bj×List aR},((l.foldl iL p).1.told=p.1.told/\(l.foldl iL p).1.bQ=p.1.bQ)/\(y∈(l.foldl iL p).2->y∈p.2∨∃x∈l,y=ar x)
 | [],p=>⟨⟨rfl,rfl⟩,.inl⟩
 | x :: l,p=>by
  obtain⟨t,u⟩:=O4 (y:=y) (l:=l) (p:=iL p x);have j:((iL p x).1.told=p.1.told/\(iL p x).1.bQ=p.1.bQ)/\(y∈(iL p x).2->y∈p.2∨y=ar x):=by
   unfold iL;split
   ·have g:=E9 (B:=p.1) (r:=tM x) Dw;exact⟨⟨g.told,g.bQ⟩,.inl⟩
   ·exact⟨⟨rfl,rfl⟩,λh=>zw⟩
  refine⟨⟨t.1.trans j.1.1,t.2.trans j.1.2⟩,λh=>?_⟩;rcases u h with h|⟨z,hz,e⟩
  ·rcases j.2 h with h|h
   ·exact .inl h
   ·exact .inr ⟨x,aj,h⟩
  ·exact .inr ⟨z,La,e⟩
theorem Lb{x}(h:cD x):eu (ar x):=⟨h.2.1,h.2.2.2.1,h.2.2.2.2.1⟩
theorem atP{B l}(h:kN B)(F:bD B)(u:∀x∈l,cD x)(hn:l.length<=16):kN (uV B l)/\bD (uV B l)/\(uV B l).told=B.told:=by
 have hm:∀x∈mw B l,x∈l:=λx j=>(List.mem_filter.1 j).1
 have hp:∀x∈(nU B.st (mw B l)).1,x∈l:=λx j=>by rcases abK j with h|h;all_goals grind
 have C:=acM (l:=(nU B.st (mw B l)).1) (p:=(B,tN B l++(nU B.st (mw B l)).2)) F λx j=>u x (hp x j)
 have E:=aee (s:=B.st) (mw B l) ([],[]);have H:(mw B l).length<=l.length:=ll _ _;have G:(tN B l).length<=l.length:=by grind [tN]
 have A:(sH B l).1.told=B.told:=(O4 (y:=(0,0,0))).1.1;have D:(sH B l).1.bQ=B.bQ:=(O4 (y:=(0,0,0))).1.2;refine⟨⟨by show (sH B l).1.told.Nodup;rw[A];exact h.nd,by show ∀a∈(sH B l).1.told,_;rw[A];exact h.tf,λa t=>?_,by show ((sH B l).1.bQ.map (·.1)).Nodup;rw[D];exact h.nk⟩,?_,A⟩
 ·rcases O4.2 t with t|⟨x,j,rfl⟩
  ·rcases List.mem_append.1 t with t|t
   ·unfold tN at t;obtain⟨x,j,rfl⟩:=List.mem_map.1 t;exact Lb (u x (List.mem_filter.1 j).1)
   ·rcases adz t with t|⟨x,j,rfl⟩
    ·simp at t
    ·exact Lb (u x (hm x j))
  ·exact Lb (u x (hp x j))
 ·have g:=C.1;refine⟨g.tr,g.me,g.hm,g.dk,g.tx,g.calls,g.bQ,g.told,?_,g.waits,g.yB⟩;have:=C.2;simp only[cF]at this;simp only[nU]at this;simp only[List.length_nil]at E;show (sH B l).2.length<=1000000;unfold sH nU;omega
theorem atQ{B m}(h:kN B)(u:bD B)(G:dZ m=true)(hfit:pT m)(S:B.told.length+m.dN.length<=1000000):kN (qO B m)/\bD (qO B m)/\(qO B m).told.length<=B.told.length+16:=by
 obtain⟨L,R,t,C,F,Q,A,T,M⟩:=Qi G hfit
 have y:=OQ (l:=m.entries) (B:=B) (n:=m.got)
 have E:=h.same y (Ur (l:=m.entries) (B:=B) (n:=m.got))
 have J:=OP u M λx j=>(L x j).2
 obtain⟨I,D,X⟩:=acN E J F aG
 obtain⟨H,N,V⟩:=acf I D A
 obtain⟨U,W,O⟩:=atP H N (λx j=>(t x j).2) C
 grind [dZ,pT,qO,uV,jd,mR,lP]
theorem ar7{l k m x}(h:x∈nV l k m):x∈l∨x=(k,m):=by
 grind [nV]
theorem atS{l k m}(h:(l.map (·.1)).Nodup):((nV l k m).map (·.1)).Nodup:=by
 grind [nV]
theorem O5{B k m}(j:bD B)(u:dZ m=true)(hfit:pT m):bD { B with bQ:=nV B.bQ k m } :=
 ⟨j.tr,j.me,j.hm,j.dk,j.tx,j.calls,λx t=>by
  rcases ar7 t with h|rfl
  ·exact j.bQ x h
  ·exact⟨u,hfit⟩,j.told,j.fe,j.waits,j.yB⟩
theorem acg{B}(h:kN B)(A:bD B) j b(H:B.told.length+16<=1000000):kN (il B j b).1/\bD (il B j b).1/\(il B j b).1.told.length<=B.told.length+16:=by
 unfold il
 split
 ·split
  ·grind
  ·rename_i m hm;have u:=(OY hm).2;have hfit:=Pe hm;split
   ·have g:=O5 (k:=j) A u hfit;have f:kN { B with bQ:=nV B.bQ j m }:=⟨h.nd,h.tf,h.rf,atS h.nk⟩;refine⟨O3 g f,Km g,?_⟩;have C:=g.open';have y:=Hr g λx t=>(C.2.1 x t).2
    have D:=Kl (kids:=dy { B with bQ:=nV B.bQ j m }) (p:=(zK { B with bQ:=nV B.bQ j m },[])) y.1 λx t=>(C.1 x t).2
    have e:(gZ { B with bQ:=nV B.bQ j m }).told=B.told:=by
     unfold gZ;split
     ·exact (y.2.tr D.2.1).told
     ·rfl
    grind
   ·split
    ·have hA:=(Qi u hfit).2.2.2.2.2.1;obtain⟨G,F,E⟩:=atQ h A u hfit af;grind
    grind
 grind
theorem UQ{l cs x}(h:cD x):cD (jx l cs x):=by
 grind [cD,jx]
theorem aef{ab:List aR}{a:aR}:∀ {l:List aK} {o:List aR},a∈l.foldl (pJ ab) o->a∈o∨∃x∈l,a=ar x
 | [],o,h=>.inl h
 | x :: l,o,h=>by
  rcases aef (l:=l) h with h|⟨z,hz,e⟩
  ·unfold pJ at h;split at h
   ·exact ah0
   ·exact .inl h
  ·exact .inr ⟨z,La,e⟩
theorem aeg{s:dc}{op:List aK}{a:aR}:∀ {l:List kV} {o:List aR},a∈l.foldl (kI s op) o->a∈o∨∃x∈l,a=x.id
 | [],o,h=>.inl h
 | x :: l,o,h=>by
  rcases aeg (l:=l) h with h|⟨z,hz,e⟩
  ·unfold kI at h;exact ahZ
  ·exact .inr ⟨z,La,e⟩
theorem acO{j:List fw}{v:kV}:∀ {l:List aK} {o:List kV},v∈l.foldl (qH j) o->v∈o∨∃x∈l,v.id=ar x
 | [],o,h=>.inl h
 | x :: l,o,h=>by
  rcases acO (l:=l) h with h|⟨z,hz,e⟩
  ·unfold qH at h;split at h
   ·rcases List.mem_append.1 h with h|h
    ·exact .inl h
    ·simp at h;exact .inr ⟨x,aj,by rw[h]⟩
   ·exact .inl h
  ·exact .inr ⟨z,La,e⟩
theorem acP{v:kV}:∀ {l:List aR} {o:List kV},v∈l.foldl lK o->v∈o∨v.id∈l
 | [],o,h=>.inl h
 | x :: l,o,h=>by
  rcases acP (l:=l) h with h|h
  ·unfold lK at h;split at h
   ·exact .inl h
   ·split at h
    ·exact .inl h
    ·rcases List.mem_append.1 h with h|h
     ·exact .inl h
     ·simp at h;exact .inr (by rw[h];simp)
  ·exact .inr Ib
theorem bD.ajo{B}(j:bD B) k:(∀x∈(i7 B k).asks,cD x)/\(∀v∈(i7 B k).cK,eu v.id)/\(i7 B k).asks.length<=16/\(i7 B k).cK.length<=16/\(i7 B k).got<18446744073709551616:=by
 rcases j.rep k with h|⟨h,f⟩
 ·grind [yr]
 ·simp only[dZ,j0,dE,decide_eq_true_eq,uO]at h;obtain⟨⟨⟨⟨⟨⟨-,t,-⟩,u,-⟩,-⟩,-⟩,-⟩,-⟩:=h;exact⟨f.2.2.2.1,f.2.2.1,u,t,f.2.1⟩
theorem abL{B}(u:bD B) k:pT (wL B k):=by
 have D:=u.dk.inv;have C:=u.ajo k;have E:=u.dk.len;refine⟨by simp[wL,cJ],?_,by simp[wL],by simp[wL],λx j=>?_,λx j=>?_,λa A=>?_,λa A=>?_⟩
 ·grind [pT,wL,pK]
 ·have j:x∈BN B (uC B k) (pK B k) (zJ B.st.list (pK B k)):=j;unfold BN at j;obtain⟨y,t,rfl⟩:=List.mem_map.1 j;have:=List.fst_mem_of_mem_zipIdx t;exact UQ (D.yU _ (List.mem_of_mem_drop (lM this))).2
 ·have j:x∈((if mQ B then B.waits else B.st.prom).take 16).map (jx (jW B.st.list) (uC B k)):=j;obtain⟨y,t,rfl⟩:=List.mem_map.1 j;have t:=lM t;split at t
  ·exact UQ (u.waits y t).2
  ·exact UQ (D.yV y t).2
 ·rcases aef (show a∈(i7 B k).asks.foldl (pJ (BI B)) []from A)with h|⟨x,j,rfl⟩
  ·simp at h
  ·exact Lb (C.1 x j)
 ·rcases aeg (show a∈(i7 B k).cK.foldl (kI B.st B.waits) []from A)with h|⟨x,j,rfl⟩
  ·simp at h
  ·exact C.2.1 x j
theorem ach{B}(t:bD B)(h:kN B):pT (Dq B):=by
 have y:=t.dk.inv;have A:=t.dk.len;refine⟨by simp[Dq,cJ],by show B.st.list.length<_;omega,λv j=>?_,λx u=>(t.asks u).2,Qj,Qj,Qj,Qj⟩;rcases acP (show v∈B.refused.foldl lK (B.st.prom.foldl (qH (dy B)) [])from j)with j|j
 ·rcases acO j with j|⟨x,u,e⟩
  ·grind
  ·rw[e];exact Lb (y.yV x u).2
 ·exact h.rf _ j
def sq(a b:Vl):Prop:=a.1<b.1∨a.1=b.1/\(a.2.1<b.2.1∨a.2.1=b.2.1/\lX a.2.2 b.2.2=true)
theorem OS a b:fG a b=-1/\sq a b∨fG a b=0/\a=b∨fG a b=1/\sq b a:=by
 grind [fG,ia,yq,sq,aeL,lX,KO]
theorem Ua a:¬sq a a:=by
 grind [sq,TZ]
theorem zq{a b c}(h:sq a b)(k:sq b c):sq a c:=by
 grind [sq,ac0]
theorem KC a b:fG a b<0↔sq a b:=by
 grind [OS,Ua,zq]
theorem H7 a b:0<fG a b↔sq b a:=by
 grind [OS,Ua,zq]
theorem O6 a b:fG a b=0↔a=b:=by
 grind [OS,Ua]
theorem WI a b:fG a b<=0↔sq a b∨a=b:=by rw[<- KC,<- O6];omega
theorem Qk a b:0<=fG a b↔sq b a∨a=b:=by rw[<- H7,<- O6];omega
theorem aeh a b:preB a b=true↔dK b <+: dK a:=by
 unfold preB;rw[ByteArray.toList_eq,ByteArray.toList_eq];simp only[dE,decide_eq_true_eq,beq_iff_eq,ByteArray.data_extract,Array.toList_extract,List.extract_eq_take_drop,QO,Nat.sub_zero];have j:a.size=(dK a).length:=aj;have t:b.size=(dK b).length:=aj;rw[j,t];constructor
 ·grind
 ·grind [List.prefix_iff_eq_take]
theorem apG{a b:List UInt8}(h:b <+: a):¬a<b:=by
 obtain⟨t,rfl⟩:=h
 induction b with
 | nil=>simp
 | cons x b j=>simp only[aQ,List.cons_lt_cons_iff];intro h;rcases h with h|⟨-,h⟩;exact absurd h aj;exact j h
theorem awX{v a}(h:jH v a=true)(y:v.2.1=0)(u:a.2.1=0):¬sq v a:=by
 unfold jH at h
 simp only[dE,beq_iff_eq]at h
 obtain⟨⟨j,t⟩,A⟩:=h
 grind [sq,KM,apG,aeh]
theorem ar8{a b c}(h:jH a b=true)(k:jH b c=true):jH a c=true:=by
 unfold jH at *
 simp only[dE,beq_iff_eq,aeh]at *
 grind
def Ec(a b:dt):Bool :=
 if a.2.1=1 then iV b a.2.2
 else if a.2.1=3 then decide ((b.2.1=3∨b.2.1=4∨b.2.1=2)/\fG a.2.2 b.2.2<=0)
 else if a.2.1=4 then (if b.2.1=4 then decide (fG a.2.2 b.2.2<=0)else decide ((b.2.1=3∨b.2.1=2)/\fG a.2.2 b.2.2<0))
 else if a.2.1=5 then decide ((b.2.1=5∨b.2.1=6∨b.2.1=2)/\0<=fG a.2.2 b.2.2)
 else if a.2.1=6 then (if b.2.1=6 then decide (0<=fG a.2.2 b.2.2)else decide ((b.2.1=5∨b.2.1=2)/\0<fG a.2.2 b.2.2))
 else if a.2.1=7 then (if b.2.1=7 then jH a.2.2 b.2.2 else if b.2.1=6 then decide (0<=fG a.2.2 b.2.2)else if b.2.1=5 then decide (0<fG a.2.2 b.2.2)else if b.2.1=2 then !jH b.2.2 a.2.2 else false)
 else false
def CG(o:Int):Bool:=decide (1<=o)&&decide (o<=8)
def pX(a b:dt):Bool :=
 if a.1≠b.1∨CG a.2.1=false∨CG b.2.1=false then false
 else if a=b∨b.2.1=8 then true
 else if a.2.1=8∨a.2.2.1≠b.2.2.1 then false
 else Ec a b
def oo(f g:List dt):Bool:=f.all λt=>g.any λu=>pX u t
def oq:List (List dt)->List (List dt)->List (List dt)
 | out,[]=>out
 | out,f :: r=>if out.any (λs=>oo s f)||r.any (λs=>oo s f)then oq out r else oq (out++[f]) r
def rS(l:List (List dt)):List (List dt):=oq [] l
def jJ(l:List (List dt))(e:List cT):Bool:=l.any λf=>mL f e
theorem avG{t v}(h:iV t v=true)(h8:t.2.1≠8):v.1=t.2.2.1:=by
 grind [iV]
theorem ah1{v:Vl}(h:iH v.1 v.2.1 v.2.2=true)(k:v.1=2):v.2.1=0:=by
 grind [iH]
theorem atT{a b v}(Q:fY a=true)(hb:fY b=true)(N:iH v.1 v.2.1 v.2.2=true)(h:pX a b=true)(j:iV a v=true):iV b v=true:=by
 unfold pX at h;split at h
 ·cases h
 split at h
 ·rename_i B;rcases B with rfl|B
  ·exact j
  ·unfold iV;simp[B]
 rename_i B;split at h
 ·cases h
 rename_i I;have E:a.2.1≠8:=λe=>I (.inl e)
 have J:b.2.1≠8:=λe=>B (.inr e)
 have hk:=Decidable.byContradiction λe=>I (.inr e)
 have G:=avG j E;have O:=(Fa Q).2.2.2.2 E;have gb:=(Fa hb).2.2.2.2 J;obtain⟨na,y,va⟩:=a;obtain⟨P,u,t⟩:=b;simp only at *;have L:iV (P,u,t) v=(if u==1 then fG v t==0 else if u==2 then fG v t != 0 else if u==3 then decide (fG v t<0)else if u==4 then decide (fG v t<=0)
  else if u==5 then decide (0<fG v t)else if u==6 then decide (0<=fG v t)else if u==7 then jH v t else false):=by
  unfold iV;simp[J,G,hk]
 have R:iV (na,y,va) v=(if y==1 then fG v va==0 else if y==2 then fG v va != 0 else if y==3 then decide (fG v va<0)else if y==4 then decide (fG v va<=0)
  else if y==5 then decide (0<fG v va)else if y==6 then decide (0<=fG v va)else if y==7 then jH v va else false):=by
  unfold iV;simp[E,G]
 rw[R]at j;have U:=h;unfold Ec at h;simp only at h;split at h
 ·rename_i e;simp only[e,beq_self_eq_true,if_true,beq_iff_eq,O6]at j;rw[j];exact h
 rw[L];split at h
 ·rename_i e;subst e;simp at j h;rw[KC]at j;rw[WI]at h;have A:=h.2.elim (λk=>zq j k) λk=>k▸j
  have F:=(KC _ _).2 A;rcases h.1 with rfl|rfl|rfl <;> simp <;> omega
 split at h
 ·rename_i e;subst e;simp at j;rw[WI]at j;split at h
  ·rename_i e;subst e;simp at h⊢;rw[WI]at h⊢;rcases j with j|rfl
   ·exact .inl (h.elim (λk=>zq j k) λk=>k▸j)
   ·exact h
  ·simp at h;rw[KC]at h;have A:=j.elim (λk=>zq k h.2) λk=>k▸h.2
   have F:=(KC _ _).2 A;rcases h.1 with rfl|rfl <;> simp <;> omega
 split at h
 ·rename_i e;subst e;simp at j h;rw[H7]at j;rw[Qk]at h;have A:=h.2.elim (λk=>zq k j) λk=>k▸j
  have F:=(H7 _ _).2 A;rcases h.1 with rfl|rfl|rfl <;> simp <;> omega
 split at h
 ·rename_i e;subst e;simp at j;rw[Qk]at j;split at h
  ·rename_i e;subst e;simp at h⊢;rw[Qk]at h⊢;rcases j with j|rfl
   ·exact .inl (h.elim (λk=>zq k j) λk=>k▸j)
   ·exact h
  ·simp at h;rw[H7]at h;have A:=j.elim (λk=>zq h.2 k) λk=>k▸h.2
   have F:=(H7 _ _).2 A;rcases h.1 with rfl|rfl <;> simp <;> omega
 split at h
 ·rename_i e;subst e;simp at j;have D:=j;unfold jH at D;simp only[dE,beq_iff_eq]at D;have T:=ah1 N D.1.1;have S:=ah1 O D.1.2;have M:=awX j T S;have C:sq va v∨va=v:=by
   rcases OS va v with h|h|h
   ·exact .inl h.2
   ·exact .inr h.2
   ·exact absurd h.2 M
  split at h
  ·rename_i e;subst e;simp;exact ar8 j h
  split at h
  ·rename_i e;subst e;simp at h⊢;rw[Qk]at h⊢;rcases C with C|rfl
   ·exact .inl (h.elim (λk=>zq k C) λk=>k▸C)
   ·exact h
  split at h
  ·rename_i e;subst e;simp at h⊢;rw[H7]at h⊢;exact C.elim (λk=>zq h k) λk=>k▸h
  split at h
  ·rename_i e;subst e;simp at h⊢;intro H;rw[O6]at H;subst H;rw[j]at h;cases h
  ·cases h
 ·cases h
theorem aqG{a b e}(u:fY a=true)(hb:fY b=true)(A:∀x∈e,j9 x=true)(h:pX a b=true)(t:rH a e=true):rH b e=true:=by
 have hn:a.1=b.1:=by
  grind [fY,j9,pX,rH]
 unfold rH at *;rw[<- hn];split at t
 ·rename_i x y;have hm:=List.mem_of_find?_eq_some y;have j:=A x hm;unfold j9 at j;simp only[dE]at j;exact atT u hb j.2 h t
 ·cases t
theorem adA{f g e}(j:∀t∈f,fY t=true)(hg:∀t∈g,fY t=true)(u:∀x∈e,j9 x=true)(h:oo f g=true)(y:mL g e=true):mL f e=true:=by
 grind [oo,mL,uO,List.any_eq_true,aqG]
theorem Ub{e}(y:∀x∈e,j9 x=true):∀ {l out:List (List dt)},(∀f∈l,∀t∈f,fY t=true)->(∀f∈out,∀t∈f,fY t=true)->jJ (oq out l) e=(jJ out e||jJ l e)
 | [],out,_,_=>by simp[oq,jJ]
 | f :: r,out,hl,ho=>by
  unfold oq;have A:∀g∈r,∀t∈g,fY t=true:=λg hg=>hl g (by simp[hg])
  split
  ·rename_i j;rw[Ub y A ho];have B:mL f e=true->(jJ out e||jJ r e)=true:=by
    intro hm;rw[Bool.or_eq_true]at j⊢;unfold jJ;simp only[List.any_eq_true]at j⊢;rcases j with ⟨s,u,j⟩|⟨s,u,j⟩
    ·exact .inl ⟨s,u,adA (ho s u) (hl f aj) y j hm⟩
    ·exact .inr ⟨s,u,adA (A s u) (hl f aj) y j hm⟩
   show _=(jJ out e||(mL f e||jJ r e));cases hm:mL f e
   ·simp
   ·rw[B hm];simp
  ·rw[Ub y A (λg hg=>by
    rcases List.mem_append.1 hg with hg|hg
    ·exact ho g hg
    ·simp at hg;subst hg;exact hl g aj)]
   show (jJ (out++[f]) e||jJ r e)=(jJ out e||(mL f e||jJ r e));unfold jJ;simp[List.any_append,Bool.or_assoc]
theorem ar9{l e}(u:∀f∈l,∀t∈f,fY t=true)(j:∀x∈e,j9 x=true):jJ (rS l) e=jJ l e:=by
 grind [rS,Ub,jJ]
theorem UR{f:List dt}:∀ {l out:List (List dt)},f∈oq out l->f∈out∨f∈l
 | [],out,h=>.inl h
 | g :: r,out,h=>by
  unfold oq at h;split at h
  ·rcases UR h with h|h
   ·exact .inl h
   ·exact .inr Ib
  ·rcases UR h with h|h
   ·rcases List.mem_append.1 h with h|h
    ·exact .inl h
    ·simp at h;subst h;exact .inr aj
   ·exact .inr Ib
theorem US:∀ {l out:List (List dt)},(oq out l).length<=out.length+l.length
 | [],out=>by simp[oq]
 | g :: r,out=>by
  unfold oq;split
  ·exact bn US aj
  ·exact bn US aY
abbrev td(a b:dt)(z:Int):Array Value:=#[.string a.1,.int .i64 a.2.1,.int .i64 a.2.2.1,.int .i64 a.2.2.2.1,.string a.2.2.2.2,.string b.1,.int .i64 b.2.1,.int .i64 b.2.2.1,.int .i64 b.2.2.2.1,.string b.2.2.2.2,.int .i64 z]
def CI(op:Int):Nat:=if op=1 then 368 else if op=3 then 369 else if op=4 then 370 else if op=5 then 371 else if op=6 then 372 else if op=7 then 373 else 374
theorem aqH op w:Calls prog 360 #[.int .i64 op] w λe w'=>e=.returned (.func (.func (CI op)) #[] #[])/\K w w':=by
 by_cases h1:op=1
 ·subst h1;exact Iq
 by_cases h3:op=3
 ·subst h3;exact Iq
 by_cases h4:op=4
 ·subst h4;exact Iq
 by_cases h5:op=5
 ·subst h5;exact Iq
 by_cases h6:op=6
 ·subst h6;exact Iq
 by_cases h7:op=7
 ·subst h7;exact Iq
 have u:(op==1)=false:=Bo;have y:(op==3)=false:=KX;have j:(op==4)=false:=Ic;have t:(op==5)=false:=KV;have B:(op==6)=false:=Ql;have A:(op==7)=false:=by simpa using h7
 have HP:Hid (CI op=374):=ae (by simp[CI,h1,h3,h4,h5,h6,h7]);clear h1 h3 h4 h5 h6 h7;generalize CI op=F at *;go_enter func360,ntmps360;go_wp2;go_ret;exact⟨WJ,K.rf w⟩
theorem aci op w:Calls prog 359 #[.int .i64 op] w λe w'=>e=.returned (.bool (CG op))/\K w w':=by
 have HR:Hid (CG op=(decide (1<=op)&&decide (op<=8))):=ae rfl;generalize CG op=R at *;by_cases h1:1<=op
 ·have HR:Hid (R=decide (op<=8)):=ae ah2;exact ah3
 ·have HR:Hid (R=false):=ae ah2;exact ah3
theorem apH a b z w:Calls prog 374 #[.agg (td a b z)] w λe w'=>e=.returned (.bool false)/\K w w':=by have j:=K.new w (.cells (td a b z) 381);go_enter func374,ntmps374;go_wp2;go_ret;first|exact⟨rfl,j⟩|exact⟨rfl,K.rf w⟩
theorem aqI a b z w:Calls prog 368 #[.agg (td a b z)] w λe w'=>e=.returned (.bool (iV b a.2.2))/\K w w':=by
 have y:=K.new w (.cells (td a b z) 381);have j:=ae λW=>aec b a.2.2 W
 generalize iV b a.2.2=R at *;go_enter func368,ntmps368;go_wp2_with fail
 refine (j.aa _).mono ?_;rintro e A⟨rfl,t⟩;have u:=y.tr t;clear j;go_wp2;go_ret;exact⟨rfl,u⟩
theorem aqJ a b z w:Calls prog 369 #[.agg (td a b z)] w λe w'=>e=.returned (.bool (decide ((b.2.1=3∨b.2.1=4∨b.2.1=2)/\z<=0)))/\K w w':=by
 have k1:=K.new w (.cells (td a b z) 381);obtain⟨B,j,A,C,u⟩:=b;have HR:Hid ((decide ((j=3∨j=4∨j=2)/\z<=0))=(decide ((j=3∨j=4∨j=2)/\z<=0))):=ae rfl;show Calls _ _ _ _ λe w'=>e=.returned (.bool (decide ((j=3∨j=4∨j=2)/\z<=0)))/\_
 clear HR;by_cases h3:j=3
 ·have HR:Hid ((decide ((j=3∨j=4∨j=2)/\z<=0))=decide (z<=0)):=ae (by subst h3;simp);generalize (decide ((j=3∨j=4∨j=2)/\z<=0))=R at *;subst h3;exact Qm
 by_cases h4:j=4
 ·have HR:Hid ((decide ((j=3∨j=4∨j=2)/\z<=0))=decide (z<=0)):=ae (by subst h4;simp);generalize (decide ((j=3∨j=4∨j=2)/\z<=0))=R at *;subst h4;exact Qm
 by_cases h2:j=2
 ·have HR:Hid ((decide ((j=3∨j=4∨j=2)/\z<=0))=decide (z<=0)):=ae Lc;generalize (decide ((j=3∨j=4∨j=2)/\z<=0))=R at *;subst h2;exact Qm
 have HR:Hid ((decide ((j=3∨j=4∨j=2)/\z<=0))=false):=ae (by simp[h3,h4,h2]);generalize (decide ((j=3∨j=4∨j=2)/\z<=0))=R at *;have D:(j==3)=false:=KX;have t:(j==4)=false:=Ic;have y:(j==2)=false:=xU;clear h3 h4 h2;exact Qm
theorem ao2 a b z w:Calls prog 370 #[.agg (td a b z)] w λe w'=>e=.returned (.bool (if b.2.1=4 then decide (z<=0)else decide ((b.2.1=3∨b.2.1=2)/\z<0)))/\K w w':=by
 have k1:=K.new w (.cells (td a b z) 381);obtain⟨B,j,A,C,u⟩:=b;have HR:Hid ((if j=4 then decide (z<=0)else decide ((j=3∨j=2)/\z<0))=(if j=4 then decide (z<=0)else decide ((j=3∨j=2)/\z<0))):=ae rfl;show Calls _ _ _ _ λe w'=>e=.returned (.bool (if j=4 then decide (z<=0)else decide ((j=3∨j=2)/\z<0)))/\_
 clear HR;by_cases h4:j=4
 ·have HR:Hid ((if j=4 then decide (z<=0)else decide ((j=3∨j=2)/\z<0))=decide (z<=0)):=ae (by subst h4;simp);generalize (if j=4 then decide (z<=0)else decide ((j=3∨j=2)/\z<0))=R at *;subst h4;exact Qn
 by_cases h3:j=3
 ·have HR:Hid ((if j=4 then decide (z<=0)else decide ((j=3∨j=2)/\z<0))=decide (z<0)):=ae (by subst h3;simp);generalize (if j=4 then decide (z<=0)else decide ((j=3∨j=2)/\z<0))=R at *;subst h3;exact Qn
 by_cases h2:j=2
 ·have HR:Hid ((if j=4 then decide (z<=0)else decide ((j=3∨j=2)/\z<0))=decide (z<0)):=ae Lc;generalize (if j=4 then decide (z<=0)else decide ((j=3∨j=2)/\z<0))=R at *;subst h2;exact Qn
 have HR:Hid ((if j=4 then decide (z<=0)else decide ((j=3∨j=2)/\z<0))=false):=ae (by simp[h4,h3,h2]);generalize (if j=4 then decide (z<=0)else decide ((j=3∨j=2)/\z<0))=R at *;have t:(j==4)=false:=Ic;have D:(j==3)=false:=KX;have y:(j==2)=false:=xU;clear h4 h3 h2;exact Qn
theorem aqK a b z w:Calls prog 371 #[.agg (td a b z)] w λe w'=>e=.returned (.bool (decide ((b.2.1=5∨b.2.1=6∨b.2.1=2)/\0<=z)))/\K w w':=by
 have k1:=K.new w (.cells (td a b z) 381);obtain⟨C,j,A,B,t⟩:=b;have HR:Hid ((decide ((j=5∨j=6∨j=2)/\0<=z))=(decide ((j=5∨j=6∨j=2)/\0<=z))):=ae rfl;show Calls _ _ _ _ λe w'=>e=.returned (.bool (decide ((j=5∨j=6∨j=2)/\0<=z)))/\_
 clear HR;by_cases h5:j=5
 ·have HR:Hid ((decide ((j=5∨j=6∨j=2)/\0<=z))=decide (0<=z)):=ae WK;generalize (decide ((j=5∨j=6∨j=2)/\0<=z))=R at *;subst h5;exact Qo
 by_cases h6:j=6
 ·have HR:Hid ((decide ((j=5∨j=6∨j=2)/\0<=z))=decide (0<=z)):=ae WL;generalize (decide ((j=5∨j=6∨j=2)/\0<=z))=R at *;subst h6;exact Qo
 by_cases h2:j=2
 ·have HR:Hid ((decide ((j=5∨j=6∨j=2)/\0<=z))=decide (0<=z)):=ae Lc;generalize (decide ((j=5∨j=6∨j=2)/\0<=z))=R at *;subst h2;exact Qo
 have HR:Hid ((decide ((j=5∨j=6∨j=2)/\0<=z))=false):=ae (by simp[h5,h6,h2]);generalize (decide ((j=5∨j=6∨j=2)/\0<=z))=R at *;have y:(j==5)=false:=KV;have D:(j==6)=false:=Ql;have u:(j==2)=false:=xU;clear h5 h6 h2;exact Qo
theorem aoA a b z w:Calls prog 372 #[.agg (td a b z)] w λe w'=>e=.returned (.bool (if b.2.1=6 then decide (0<=z)else decide ((b.2.1=5∨b.2.1=2)/\0<z)))/\K w w':=by
 have k1:=K.new w (.cells (td a b z) 381);obtain⟨C,j,A,B,t⟩:=b;have HR:Hid ((if j=6 then decide (0<=z)else decide ((j=5∨j=2)/\0<z))=(if j=6 then decide (0<=z)else decide ((j=5∨j=2)/\0<z))):=ae rfl;show Calls _ _ _ _ λe w'=>e=.returned (.bool (if j=6 then decide (0<=z)else decide ((j=5∨j=2)/\0<z)))/\_
 clear HR;by_cases h6:j=6
 ·have HR:Hid ((if j=6 then decide (0<=z)else decide ((j=5∨j=2)/\0<z))=decide (0<=z)):=ae WL;generalize (if j=6 then decide (0<=z)else decide ((j=5∨j=2)/\0<z))=R at *;subst h6;exact Qp
 by_cases h5:j=5
 ·have HR:Hid ((if j=6 then decide (0<=z)else decide ((j=5∨j=2)/\0<z))=decide (0<z)):=ae WK;generalize (if j=6 then decide (0<=z)else decide ((j=5∨j=2)/\0<z))=R at *;subst h5;exact Qp
 by_cases h2:j=2
 ·have HR:Hid ((if j=6 then decide (0<=z)else decide ((j=5∨j=2)/\0<z))=decide (0<z)):=ae Lc;generalize (if j=6 then decide (0<=z)else decide ((j=5∨j=2)/\0<z))=R at *;subst h2;exact Qp
 have HR:Hid ((if j=6 then decide (0<=z)else decide ((j=5∨j=2)/\0<z))=false):=ae (by simp[h6,h5,h2]);generalize (if j=6 then decide (0<=z)else decide ((j=5∨j=2)/\0<z))=R at *;have D:(j==6)=false:=Ql;have y:(j==5)=false:=KV;have u:(j==2)=false:=xU;clear h6 h5 h2;exact Qp
theorem ao3 a b z w:Calls prog 373 #[.agg (td a b z)] w λe w'=>e=.returned (.bool (if b.2.1=7 then jH a.2.2 b.2.2 else if b.2.1=6 then decide (0<=z)else if b.2.1=5 then decide (0<z)else if b.2.1=2 then !jH b.2.2 a.2.2 else false))/\K w w':=by
 have k1:=K.new w (.cells (td a b z) 381);have C1:=ae λW=>TN a.2.2 b.2.2 W
 have C2:=ae λW=>TN b.2.2 a.2.2 W
 obtain⟨E,j,A,B,y⟩:=b;show Calls _ _ _ _ λe w'=>e=.returned (.bool (if j=7 then jH a.2.2 (A,B,y)else if j=6 then decide (0<=z)else if j=5 then decide (0<z)else if j=2 then !jH (A,B,y) a.2.2 else false))/\_
 simp only at C1 C2;generalize jH a.2.2 (A,B,y)=t at *;generalize jH (A,B,y) a.2.2=u at *;by_cases h7:j=7
 ·have HR:Hid ((if j=7 then t else if j=6 then decide (0<=z)else if j=5 then decide (0<z)else if j=2 then !u else false)=(t)):=ae (by subst h7;simp);generalize (if j=7 then t else if j=6 then decide (0<=z)else if j=5 then decide (0<z)else if j=2 then !u else false)=R at *;subst h7;go_enter func373,ntmps373;go_wp2_with fail
  refine (C1.aa _).mono ?_;exact ah4
 by_cases h6:j=6
 ·have HR:Hid ((if j=7 then t else if j=6 then decide (0<=z)else if j=5 then decide (0<z)else if j=2 then !u else false)=(decide (0<=z))):=ae WL;generalize (if j=7 then t else if j=6 then decide (0<=z)else if j=5 then decide (0<z)else if j=2 then !u else false)=R at *;subst h6;exact WM
 by_cases h5:j=5
 ·have HR:Hid ((if j=7 then t else if j=6 then decide (0<=z)else if j=5 then decide (0<z)else if j=2 then !u else false)=(decide (0<z))):=ae WK;generalize (if j=7 then t else if j=6 then decide (0<=z)else if j=5 then decide (0<z)else if j=2 then !u else false)=R at *;subst h5;exact WM
 by_cases h2:j=2
 ·have HR:Hid ((if j=7 then t else if j=6 then decide (0<=z)else if j=5 then decide (0<z)else if j=2 then !u else false)=(!u)):=ae Lc;generalize (if j=7 then t else if j=6 then decide (0<=z)else if j=5 then decide (0<z)else if j=2 then !u else false)=R at *;subst h2;go_enter func373,ntmps373;go_wp2_with fail
  refine (C2.aa _).mono ?_;exact ah4
 have HR:Hid ((if j=7 then t else if j=6 then decide (0<=z)else if j=5 then decide (0<z)else if j=2 then !u else false)=false):=ae (by simp[h7,h6,h5,h2]);generalize (if j=7 then t else if j=6 then decide (0<=z)else if j=5 then decide (0<z)else if j=2 then !u else false)=R at *;have F:(j==7)=false:=by simpa using h7
 have G:(j==6)=false:=Ql;have D:(j==5)=false:=KV;have C:(j==2)=false:=xU;clear h7 h6 h5 h2 C1 C2;exact WM
theorem asa a b w:Calls prog (CI a.2.1) #[.agg (td a b (fG a.2.2 b.2.2))] w λe w'=>e=.returned (.bool (Ec a b))/\K w w':=by
 unfold CI Ec;split
 ·exact aqI a b _ w
 split
 ·exact aqJ a b _ w
 split
 ·exact ao2 a b _ w
 split
 ·exact aqK a b _ w
 split
 ·exact aoA a b _ w
 split
 ·exact ao3 a b _ w
 ·exact apH a b _ w
theorem atU op:∀args W,(callFunc (CI op) args).run prog W=.ok (.enter (CI op) args) W:=by
 intro args W
 unfold CI
 repeat' split
 all_goals rfl
