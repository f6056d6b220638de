/-
  The walk of net.New (layer 14). Conditions: none.
-/
import Derived.Test.YtcjlnlcpodcldaaGreatMs04
import Derived.Test.YtcjlnlcpodcldaaGreatMsz
set_option maxRecDepth 100000
set_option maxHeartbeats 16000000
set_option linter.all false
namespace Go.Proofs.YtcjlnlcpodcldaaGreat
open Go Go.RowKit _root_.Go.Proofs.Tryz
open List renaming length→Z
open _root_.Array renaming size→D
open Go.World renaming heap→L,alloc→aU,setCell→aV
open Go.Value renaming ownBlock→aW
open Go.Value renaming int→G,slice→F,pointer→aj,bool→ar,tuple→au,agg→av,string→aw
open Go.IntKind renaming i64→J,u64→E
open Option renaming none→U,some→I
open Go.Ending renaming returned→ak
open Go.Obj renaming cells→aq
open Go.World renaming setCell→ax,alloc→ay
open Bool renaming false→az,true→aA
open And renaming intro→aB
open List renaming lookup→aC,getElem?_eq_getElem→aE,getElem?_eq_some_iff→aF
open _root_.Array renaming getElem?_toList→aD,getElem?_eq_some_iff→aG
open Nat renaming le_succ→aH
open Or renaming inl→aI,inr→aJ
open Go renaming Calls→aK,execOp→aL,bodyPost_ret→aM,World→aP,Value→aQ
open Go.RowKit renaming Below→aN,intOf→aO
open _root_.Go.Proofs.Tryz renaming prog→aR
section
open Go Go.RowKit Go.Conc
def DR(par:List Int)(n:Nat):List kI:=(List.range n).tail.flatMap λ(k:Nat)=>let p:=(par[k]?).getD 0;[(((k:Int),p),[]),((p,(k:Int)),[])]
theorem avv par k(hk:1<=k):DR par (k+1)=DR par k++[(((k:Int),(par[k]?).getD 0),[])]++[(((par[k]?).getD 0,(k:Int)),[])]:=by unfold DR;rw[List.range_succ,List.tail_append_of_ne_nil bL,List.flatMap_append];simp
theorem Xp par n:∀p∈DR par n,p.2=[]:=by grind [DR]
theorem zy.mem{M C A H bC j W}(h:zy M C A H bC j W){p}(z:p∈bC):∃q∈j,p.1=q.1/\∃c<D (L W),p.2=.chan (I c):=by
 obtain⟨i,y,rfl⟩:=List.getElem_of_mem z;have t:i<Z j:=by rw[<- h.len];exact y
 obtain⟨B,c,vs,e,-,N,-⟩:=h.ls i y t;exact⟨_,dJ t,B,c,N.lt,e⟩
theorem zy.add{M C Q t c bC A W W1 k}(h:zy M C Q t bC A W)(hL:∀p∈A,p.2=[])(kk:K W W1)(hg:Q≠t)(hc:mY c [] W1)(hw:D (L W)<=c)(hk:∀p∈A,p.1≠k):∃H,(Instr.mapUpdate 151 (.map (I t)) (qM k) (.chan (I c))).run aR W1=.ok () H/\bf (λk=>k=t) W1 H/\∃bC,∀(B N:Nat->Prop),(∀k,C k\/k=c->N k)->(∀k,N k->B k)->¬B Q/\¬B t->zy B N Q t bC (A++[(k,[])]) H:=by
 have R:∀p∈bC,p.1≠k:=λp T=>by obtain⟨q,hq,e,-⟩:=h.mem T;grind
 obtain⟨H,r1,Y,r3⟩:=Gy aoe underlying151 (h.map.st kk) k (.chan (I c));have u:=bf.gy r3 (X:=λk=>k=t) λk e=>bL
 have u1:=(bf.cz kk (λk=>k=t)).tr u;have hcm:c≠t:=λe=>by have:=h.map.lt;omega
 unfold uK at Y;rw[Yd R]at Y;refine⟨H,r1,u,bC++[(k,.chan (I c))],λB N hC hM hn=>?_⟩;refine⟨h.blk.cF u1 hg,Y,by simp[h.len],λi V S=>?_,?_,λi j V hj e=>?_,hn,hM⟩;by_cases z:i<Z bC;have y:i<Z A:=by rw[<- h.len];exact z
 simp only[List.getElem_append_left z,List.getElem_append_left y];obtain⟨g1,c2,vs,e,q1,q2,q3,q4⟩:=h.ls i z y;rw[hL _ (dJ y)]at q3|-;exact⟨g1,c2,vs,e,hC _ (aI q1),q2.cF u1 λe=>h.ne.2 (h.sub _ (e▸q1)),q3,λi _ S=>bL⟩;obtain rfl:i=Z bC:=bL;simp only[List.getElem_concat_length,h.len];exact⟨bu,c,[],bu,hC _ (aJ rfl),hc.cF u hcm,rfl,λi _ S=>by simp at S⟩;rw[List.map_append];refine List.nodup_append.2 ⟨h.nd,bu,λa ha b hb=>?_⟩;obtain⟨p,T,rfl⟩:=List.mem_map.1 ha;obtain⟨q,-,-,c',hc',e⟩:=h.mem T;simp at hb;subst hb;rw[e];intro O;injection O with O;injection O with O;omega;by_cases z:i<Z bC <;> by_cases y:j<Z bC
 simp only[List.getElem_append_left z,List.getElem_append_left y]at e;exact h.kn i j z y e;obtain rfl:j=Z bC:=Tn;simp only[List.getElem_append_left z,List.getElem_concat_length]at e;exact absurd e (R _ (dJ z));obtain rfl:i=Z bC:=by simp at V;omega
 simp only[List.getElem_append_left y,List.getElem_concat_length]at e;exact absurd e.symm (R _ (dJ y));simp at V hj;omega
theorem aw3{par n}(h:iH par=aA)(hn:n<=Z par){p}(j:p∈DR par n):∃(i:Nat) (q:Int),i<n/\par[i]?=I q/\0<=q/\q<(i:Int)/\(p.1=((i:Int),q)\/p.1=(q,(i:Int))):=by grind [iH,DR]
theorem aw4 par v w(h:bD eH par v w)(T:iH par=aA) :aK aR 40 #[v] w λe w'=>∃x,e=ak x/\(∃gn,x=au #[aj (I ⟨gn,0,U⟩),G J 0]/\∃C,pC (λk=>k<D (L w)\/C k) C gn (I3 par) w'/\∀k,C k->D (L w)<=k/\k<D (L w'))/\K w w':=by
 have z:=rr T;have C1:=aY (Nf par v w h aZ);obtain⟨A,c,rfl,hl,-⟩:=h;obtain⟨b,off,rfl,hcell⟩:=ints_at hl aZ;have Aj:zT par=0:=bV T;rw[Aj]at C1;have HT:=aY T;have kk:=K.rf w;go_in;go_wp2_with fail
 apply eu C1.aX kk;intro t k1 k0;have:=λW=>KC (P:=aR) underlying151 W
 go_upto_region 5 with fail;have FD:zy (λk=>k<D (L w)\/(D (L w)<=k/\k<D (L t)+2/\k≠D (L t)/\k≠D (L t)+1)) (λk=>D (L w)<=k/\k<D (L t)+2/\k≠D (L t)/\k≠D (L t)+1) (D (L t)+1) (D (L t)) [] (DR par 1) ((aU t (.map #[] 0)).alloc (aq #[.map (I (D (L t)))] 153)) :=
  ⟨by simpa using bn.new (aU t (.map #[] 0)) 153 #[.map (I (D (L t)))],(fP.new t).st ((K.rf _).al _),rfl,λi hi=>NW,bu,λi _ hi=>NW,by have:=k1.size;constructor <;> omega,λk h=>aJ h⟩
 have X:=(k0.al (.map #[] 0)).al (aq #[.map (I (D (L t)))] 153);have hz:D (L ((aU t (.map #[] 0)).alloc (aq #[.map (I (D (L t)))] 153)))=D (L t)+2:=bu;have hz1:=k1.size;generalize ((aU t (.map #[] 0)).alloc (aq #[.map (I (D (L t)))] 153))=w2 at *;rw[<- hz]at FD;generalize PU:D (L t)=y at *;have Y:=aY (aB hz (aB hz1 PU));have H0:=aY (aB FD X);go_wp2_with fail
 go_loopw [6] (fun i W=>∃j:Nat,1<=j/\j<=Z par/\i=G J j/\Hid ((∃bC,zy (fun k=>k<D (L w)\/(D (L w)<=k/\k<D (L W)/\k≠y/\k≠y+1)) (fun k=>D (L w)<=k/\k<D (L W)/\k≠y/\k≠y+1) (y+1) y bC (DR par j) W)/\K w W/\y+2<=D (L W))) (fun i _=>Z par-(aO i).toNat)
 case atStart=>exact⟨1,aZ,aZ,rfl,aY ⟨⟨_,H0.aX.1⟩,H0.aX.2,by have:=Y.aX;omega⟩⟩
 case round =>
  obtain⟨j,PX,hj,rfl,HJ⟩:=hrel;by_cases hlt:j<Z par
  .have M:(j:Int)<Z par:=aZ;obtain⟨⟨bC,S⟩,N,CI⟩:=HJ.aX;have Hd:=λW (k:K w W)=>hcell W k j hlt
   have q:=S.blk.cells;have HK:=aY (show ∀p∈DR par j,p.1≠((j:Int),par[j])/\p.1≠(par[j],(j:Int))from λp z=>by
    obtain⟨i,x,R,-,h3,h4,h5⟩:=aw3 HT.aX aZ z;rcases h5 with e|e <;> rw[e] <;> constructor <;> intro e2 <;> injection e2 <;> omega)
   have HS:=aY (avv par j PX);have Hp:=aY ((IJ.1 HT.aX).2.2.2 j hlt PX);rw[aE hlt,Option.getD_some]at HS;generalize par[j]=x at *;have HN:=aY S;have HC:=aY Hd;have hq:=λW (k:K wr W)=>Hd W (N.tr k)
   go_wp2_with fail
   have qs:=aB q (aB hq (aB M M));refine fD 11 ?_;iterate 10 refine bB.i ?_
   refine bB.op (λv W=>∃c,v=.chan (I c)/\D (L wr)<=c/\mY c [] W) (λv W W' ⟨c,e,R,h2⟩ k=>⟨c,e,R,h2.cF (bf.cz k λ_=>False) id⟩) (λV W kW z=>?_) ?_;exact amC;intro V W kW hA;simp only[bZ,cC,dF,bS,Nat.reduceAdd]at hA;obtain⟨f0,f1,f2,f3,f4,f5,f6,f7,f8,f9,⟨c1,f10,hc1,fR⟩,-⟩:=hA;have hz:=kW.size;have:=fR.lt;obtain⟨H,r1,u1,aKI,Q⟩:=HN.aX.add (Xp par j) kW aZ fR hc1 λp z=>(HK.aX p z).1
   have hz1:=u1.size;replace Q:=Q (λk=>k<D (L w)\/(D (L w)<=k/\k<D (L H)/\k≠y/\k≠y+1)) (λk=>D (L w)<=k/\k<D (L H)/\k≠y/\k≠y+1) amD (λ_ h=>aJ h) amE;simp only[qM]at r1;refine bN.s (w':=H) ?_ (by simp[bR,aC,cP,f3,f9,f10,aL,bT,r1,go_sem]);refine bN.e ?_;have k1:=u1.k (N.tr kW) λk e=>e▸by have:=Y.aX;omega
   have js:=λB (k:K H B)=>HC.aX B (k1.tr k)
   have q1:=Q.blk.cells;have De:=aY Q;go_wp2_with fail
   have qs:=aB q1 (aB js (aB M M));refine fD 11 ?_;iterate 10 refine bB.i ?_
   refine bB.op (λv W=>∃c,v=.chan (I c)/\D (L H)<=c/\mY c [] W) (λv W W' ⟨c,e,R,h2⟩ k=>⟨c,e,R,h2.cF (bf.cz k λ_=>False) id⟩) (λV W kW z=>?_) ?_;exact amC;intro V W kW hA;simp only[bZ,cC,dF,bS,Nat.reduceAdd]at hA;obtain⟨f0,f1,f2,f3,f4,f5,f6,f7,f8,f9,⟨c2,f10,jR,nA⟩,-⟩:=hA;have:=nA.lt;obtain⟨B,r2,u2,aKJ,O⟩:=De.aX.add (λp z=>by
    rcases List.mem_append.1 z with h|h;exact Xp par j p h
    .simp at h;rw[h]) kW aZ nA jR λp z=>by
    rcases List.mem_append.1 z with h|h;exact (HK.aX p h).2;simp at h;rw[h];have:=Hp.aX;intro e;injection e;omega
   have:=u2.size;replace O:=O (λk=>k<D (L w)\/(D (L w)<=k/\k<D (L B)/\k≠y/\k≠y+1)) (λk=>D (L w)<=k/\k<D (L B)/\k≠y/\k≠y+1) amD (λ_ h=>aJ h) amE;simp only[qM]at r2;refine bN.s (w':=B) ?_ (by simp[bR,aC,cP,f3,f9,f10,aL,bT,r2,go_sem]);refine bN.e ?_;have X:=u2.k (k1.tr kW) λk e=>e▸by have:=Y.aX;omega
   rw[<- HS.aX]at O;have Hr:=aY O;go_wp2;go_roundw
   case rel=>exact⟨j+1,aZ,aZ,dh,aY ⟨⟨_,Hr.aX⟩,X,aZ⟩⟩
   case measure=>simp[aO];omega
  have M:¬(j:Int)<Z par:=aZ;obtain rfl:j=Z par:=aZ;go_wp2;go_ret2;obtain⟨⟨bC,S⟩,N,-⟩:=HJ.aX;exact⟨_,rfl,⟨_,rfl,_,⟨_,_,S⟩,λk h=>⟨h.1,h.2.1⟩⟩,N⟩
end
theorem ah4{α T j e z bytes}(y:gQ aR j e z 1 bytes)(n:Nat)(hn:n<=1000000)(x:α)(hz:z.cells=#[z])(t:T.size=1)(R:∀w,T.rel x [z] w)(hb:bytes<=1000) W :(Instr.makeSlice j (G J n) (G J n)).run aR W=.ok (F (I ⟨D (L W),0,U⟩) n n) (aU W (aq (madeCells #[z] n) e))/\bK (λ_=>True) (D (L W)) e T (List.replicate n x) (F (I ⟨D (L W),0,U⟩) n n) (aU W (aq (madeCells #[z] n) e)):=by
 obtain⟨i,H,C,M,A⟩:=y.fit;have B:(i.bytes:Int)*(n:Int)<=281474976710656:=by have:=Nat.mul_le_mul hb hn;rw[A,<- Int.natCast_mul];omega
 have h:=run_make (P:=aR) W j e i z y.und H C J J (n:Int) (n:Int) aZ aZ B aZ;rw[M,hz]at h;refine⟨bL,List.replicate n [z],?_,bu,λO _=>⟨bu,λi t Q=>bL⟩⟩;have N:(List.replicate n [z]).flatten=List.replicate n z:=bu;rw[N,t,List.length_replicate];exact Rj (xs:=List.replicate n z) (rest:=[]) (bP _) (by rw[List.append_nil,<- toList_madeCells_one];exact bn.new W e _) bu bu E3
structure G8(w:aP)(par bj:List Int)(room gw gb:Nat)(vp vh vc vg:aQ)(ds:List Nat)(vd:aQ)(W:aP):Prop where
 blk:bn W gw 105 #[vp,vh,aj U,vd,.map (I gb),vc,vg]
 map:fP encI W gb []
 p:bK (λ_=>True) (D (L w)) 3 eH par vp W
 h:bK (λ_=>True) (D (L w)) 3 eH bj vh W
 c:bK (λ_=>True) (D (L w)) 3 eH (List.replicate (Z bj) 0) vc W
 g:bK (λ_=>True) (D (L w)) 78 BG (List.replicate (Z bj) (F U 0 0)) vg W
 d:bK (λ_=>True) (D (L w)) 106 BG (ds.map λg=>aj (I ⟨g,0,U⟩)) vd W
 ap:∀b,aW vc=I b->aW vp≠I b/\aW vh≠I b
 dk:∀(i:Nat) (hi:i<Z ds),jl ds[i] (F U 0 0) [] 0 room W/\D (L w)<=ds[i]
 nd:ds.Nodup
 lo:D (L w)<=gw/\D (L w)<=gb
 k:K w W
theorem G8.push{w W W1 y par bj room gw gb vp vh vc vg vd v' ds}(h:G8 w par bj room gw gb vp vh vc vg ds vd W)(k1:K W W1)(Y:jl (D (L W)) (F U 0 0) [] 0 room W1)(Q:bK (λ_=>True) (D (L w)) 106 BG ((ds.map λg=>aj (I ⟨g,0,U⟩))++[aj (I ⟨D (L W),0,U⟩)]) v' y)(hg:W1.grownBy y (aW vd)) :bn y gw 105 #[vp,vh,aj U,vd,.map (I gb),vc,vg]/\G8 w par bj room gw gb vp vh vc vg (ds++[D (L W)]) v' (aV y ⟨gw,3,U⟩ v'):=by
 obtain⟨X,hX⟩:∃X:Nat->Prop,X=λk=>aW vd=I k\/k=gw:=⟨_,rfl⟩
 have hx1:=h.blk.bM k1;have C:=hx1.grown hg λe=>by obtain⟨_,_,_,hb⟩:=h.d.own e.symm;exact Tu
 have u:bf X W (aV y ⟨gw,3,U⟩ v'):=((bf.cz k1 _).tr (bf.gy hg λk e=>by rw[hX];exact aI e)).tr (bf.dx amF 3 v');have N:∀b e O,bn W b e O->e≠106->e≠105->¬X b:=λb e O hb M H t=>by rw[hX]at t;rcases t with t|rfl;obtain⟨_,_,_,hb2⟩:=h.d.own t;exact M (hb.jK hb2);exact H (hb.jK h.blk)
 have T:∀k,X k->D (L w)<=k/\k<D (L W):=λk j=>by rw[hX]at j;rcases j with j|rfl;exact h.d.blk k j;exact⟨h.lo.1,h.blk.lt⟩
 have A:∀ {β:Type} {S:fy β} {e:TypeId} {l:List β} {v:aQ},bK (λ_=>True) (D (L w)) e S l v W->e≠106->e≠105->bK (λ_=>True) (D (L w)) e S l v (aV y ⟨gw,3,U⟩ v'):=λz M H =>z.to u (λ_ _=>trivial) (λk j t=>by
  obtain⟨_,_,_,hb⟩:=z.own j;exact N k _ _ hb M H t) λ_ _ _=>aI trivial
 refine⟨C,by simpa using C.cH 3 v',h.map.cF u λt=>?_,A h.p bG bG,A h.h bG bG,A h.c bG bG,A h.g bG bG,?_,h.ap,λi B=>?_,?_,h.lo,u.k h.k λk j=>(T k j).1⟩;rw[hX]at t;rcases t with t|t;obtain⟨_,_,_,hb⟩:=h.d.own t;exact h.map.cells hb;have R:=h.blk;rw[<- t]at R;exact h.map.cells R;rw[List.map_append];exact Q.to (bf.dx (X:=λk=>k=gw) rfl 3 v') (λ_ _=>trivial) (λk j e=>by
  obtain⟨_,_,_,hb⟩:=Q.own j;exact absurd (hb.jK (e▸C)) bG) λ_ _ _=>aI trivial
 rw[fg]at B;by_cases z:i<Z ds;rw[List.getElem_append_left z];obtain⟨V,hl⟩:=h.dk i z;refine⟨V.cF u λk j=>?_,hl⟩;rcases j with rfl|j;exact N _ _ _ V.blk bG bG;cases j;have e:i=Z ds:=by simp at B;omega
 subst e;rw[List.getElem_append_right (bP _)];simp only[Nat.sub_self,List.getElem_cons_zero];have u2:bf X W1 (aV y ⟨gw,3,U⟩ v'):=(bf.gy hg λk e=>by rw[hX];exact aI e).tr (bf.dx amF 3 v');refine⟨Y.cF u2 λk j t=>?_,h.k.size⟩;rcases j with rfl|j;exact Nat.lt_irrefl _ (T _ t).2;cases j;rw[List.nodup_append];refine⟨h.nd,bu,λa ha b hb e=>?_⟩;simp at hb;obtain⟨i,B,rfl⟩:=List.mem_iff_getElem.1 ha;have:=(h.dk i B).1.blk.lt;omega
def pW(par bj:List Int)(room j:Nat):cT :=
 ⟨par,bj,[],(List.range (Z par)).map λ(n:Nat)=>if n<j then ⟨I (xq n par bj ⟨fA (eN eZ),room⟩ (eN eZ)),⟨fA (eN eZ),room⟩⟩else ⟨U,⟨[],room⟩⟩,bj.map λ_=>0,bj.map λ_=>[]⟩
theorem aAX par bj room:{ pW par bj room (Z par)with dV:=I3 par }=mC par bj room:=by simp[pW,mC]
theorem aaE{par bj room j}(t:j<Z par):(pW par bj room j).eV[j]?=I ⟨U,⟨[],room⟩⟩:=by simp[pW,t]
theorem ayX{par bj room j}(A:j<Z par)(B:jM (fA (eN eZ))<=room)(z:room<=1048576):s5 (pW par bj room j) j=(pW par bj room (j+1),0):=by
 have e:=DQ (jr.new z);unfold s5;simp only[Int.toNat_natCast,aaE A,Option.map_some,Option.getD_some,e,bV B];refine Prod.ext ?_ rfl;unfold oB lf pW;simp only[cT.mk.injEq,true_and,and_true,Int.toNat_natCast];refine List.ext_getElem bu λi C H=>?_
 simp only[List.length_set,List.length_map,List.length_range]at C;rw[List.getElem_set];simp only[List.getElem_map,List.getElem_range];by_cases y:j=i;subst y;simp[xq];rw[bQ y];by_cases t:i<j;rw[bV t,bV aZ];rw[bQ t,bQ aZ]
def Cd(i:Nat):Prop:=2<=i/\i≠3
theorem G8.ov{w W par bj room gw gb vp vh vc vg vd ds}(h:G8 w par bj room gw gb vp vh vc vg ds vd W)(R:Z ds=Z par) :∃own,cS ⟨gw,gb,vp,vh,aj U,vd,vc,vg,List.replicate (Z bj) (F U 0 0),ds,[]⟩ own (pW par bj room 0) W Cd/\(∀k,k<D (L w)->own k=0)/\∀k,own k≠3:=by
 obtain⟨O,H⟩:∃O:Nat->Prop,O=λk=>k=gw\/k=gb\/aW vc=I k\/aW vg=I k:=⟨_,rfl⟩
 classical
 obtain⟨own,ho⟩:∃own:Nat->Nat,own=λk=>if O k then 2 else match (List.range (Z ds)).find? λi=>decide (ds[i]?=I k)with|some i=>2*i+4|none=>0:=⟨_,rfl⟩
 have Q:∀k,O k->own k=2:=λk t=>bL
 have V:∀(i gd:Nat),ds[i]?=I gd->∃z,bn W gd 149 z:=λi gd A=>by obtain⟨C,rfl⟩:=aF.1 A;exact⟨_,(h.dk i C).1.blk⟩
 have hct:∀k,O k->∀z,¬bn W k 149 z:=λk t z hb=>by rw[H]at t;rcases t with rfl|rfl|t|t;exact Tu;exact h.map.cells hb;obtain⟨_,_,_,hb2⟩:=h.c.own t;exact Fe;obtain⟨_,_,_,hb2⟩:=h.g.own t;exact Fe
 have od:∀(i gd:Nat),ds[i]?=I gd->own gd=2*i+4:=λi gd A=>by
  obtain⟨z,hb⟩:=V i gd A;rw[ho];simp only;rw[bQ λe=>hct gd e z hb];obtain⟨hil,hie⟩:=aF.1 A;cases hf:(List.range (Z ds)).find? λi=>decide (ds[i]?=I gd)with
  | none => grind
  | some j => have C:=List.find?_some hf;simp only[decide_eq_true_eq]at C;obtain⟨hjl,hje⟩:=aF.1 C;have:i=j:=(List.getElem_inj h.nd).1 (hie.trans hje.symm);rw[this]
 have S:∀k,own k≠0->O k\/∃i,ds[i]?=I k/\own k=2*i+4:=λk t=>by grind
 have hlo:∀k,own k≠0->D (L w)<=k/\k<D (L W):=λk t=>by rcases S k t with y|⟨i,A,-⟩;rw[H]at y;rcases y with rfl|rfl|y|y;exact⟨h.lo.1,h.blk.lt⟩;exact⟨h.lo.2,h.map.lt⟩;exact h.c.blk k y;exact h.g.blk k y;obtain⟨C,rfl⟩:=aF.1 A;exact⟨(h.dk i C).2,(h.dk i C).1.blk.lt⟩
 have Y:∀b z,bn W b 3 z->aW vc≠I b->¬own b≠0:=λb z hb hne t=>by rcases S b t with y|⟨i,A,-⟩;rw[H]at y;rcases y with rfl|rfl|y|y;exact Tu;exact h.map.cells hb;exact hne y;obtain⟨_,_,_,hb2⟩:=h.g.own y;exact Fe;obtain⟨_,hb2⟩:=V i b A;exact Fe
 have BH:∀b,aW vd=I b->¬own b≠0:=λb hvb t=>by obtain⟨_,_,_,hb⟩:=h.d.own hvb;rcases S b t with y|⟨i,A,-⟩;rw[H]at y;rcases y with rfl|rfl|y|y;exact Tu;exact h.map.cells hb;obtain⟨_,_,_,hb2⟩:=h.c.own y;exact Fe;obtain⟨_,_,_,hb2⟩:=h.g.own y;exact Fe;obtain⟨_,hb2⟩:=V i b A;exact Fe
 have fp:=Oi (M:=λk=>own k≠0) h.p λb hb=>by obtain⟨_,_,z,hb2⟩:=h.p.own hb;exact Y b z hb2 λe=>(h.ap b e).1 hb
 have fh:=Oi (M:=λk=>own k≠0) h.h λb hb=>by obtain⟨_,_,z,hb2⟩:=h.h.own hb;exact Y b z hb2 λe=>(h.ap b e).2 hb
 refine⟨own,⟨λk t=>(hlo k t).2,λW' u=>⟨fp W' u,fh W' u,(h.d.to u (λ_ _=>trivial) BH (Y':=λ_=>True) λ_ _ _=>aI trivial).bD⟩,λ_=>⟨h.blk,h.map,λ_ _=>rfl,?_,h.g.low (fw _),⟨Q _ (by rw[H];exact aI rfl),Q _ (by rw[H];exact aJ (aI rfl)),λk t=>Q k (by rw[H];exact aJ (aJ (aI t))),λk t=>Q k (by rw[H];exact aJ (aJ (aJ t)))⟩,by simp[pW],bu⟩,λe=>absurd rfl e.2,λn x _ N=>?_,λc l _ R=>?_⟩,λk t=>?_,λk=>?_⟩;show bK _ 0 _ eH (bj.map λ_=>0) vc W;rw[List.map_const'];exact h.c.low (fw _);have hn:n<Z par:=by have:=(aF.1 N).1;simpa [pW]using this
 simp[pW,hn]at N;subst N;obtain⟨gd,T⟩:∃gd,ds[n]?=I gd:=⟨_,aE aZ⟩;refine⟨gd,T,λB e=>uC,λ_=>⟨rfl,F U 0 0,?_,λk t=>⟨λN=>?_,t.2⟩⟩⟩;obtain⟨C,rfl⟩:=aF.1 T;exact (h.dk n C).1;rcases N with rfl|N;exact t.1 (od n _ T);cases N;have X:=(aF.1 R).1;simp only[pW,List.length_map]at X;simp[pW,X]at R;subst R;exact⟨F U 0 0,by simp[List.getElem?_replicate,X],bK.nil _ _ _ _ _,λk t=>by cases t⟩;by_cases e:own k=0;exact e;have:=hlo k e;omega;intro e;rcases S k aZ with y|⟨i,-,A⟩;have:=Q k y;omega;omega
theorem cS.aD1{W W1 H own O C z V}(h:cS H own O W Cd)(h3:∀k,own k≠3)(k1:K W W1)(hN:pC (λk=>k<D (L W)\/C k) C z V W1)(N:∀k,C k->D (L W)<=k/\k<D (L W1)) :∃y,cS { H with vn:=aj (I ⟨z,0,U⟩) } y { O with dV:=V } (aV W1 ⟨H.gw,2,U⟩ (aj (I ⟨z,0,U⟩))) eJ/\∀k,k<D (L W)->y k=own k:=by
 classical
 obtain⟨y,ho⟩:∃y:Nat->Nat,y=λk=>if C k then 3 else own k:=⟨_,rfl⟩
 have hlo:=h.lo;have S:∀k,C k->y k=3:=λk t=>by rw[ho];exact bV t
 have R:∀k,¬C k->y k=own k:=λk t=>by rw[ho];exact bQ t
 have B:∀k,k<D (L W)->y k=own k:=λk t=>R k λj=>by have:=N k j;omega
 have o4:∀k,y k=3↔C k:=λk=>⟨λe=>by
  by_cases j:C k;exact j;rw[R k j]at e;exact absurd e (h3 k),S k⟩
 have Y:∀k,y k≠0->k<D (L W)\/C k:=λk e=>by by_cases j:C k;exact aJ j;rw[R k j]at e;exact aI (hlo k e)
 have u:bf (λk=>k=H.gw) W (aV W1 ⟨H.gw,2,U⟩ (aj (I ⟨z,0,U⟩))):=(bf.cz k1 _).tr (bf.dx (X:=λk=>k=H.gw) rfl 2 _);have:D (L (aV W1 ⟨H.gw,2,U⟩ (aj (I ⟨z,0,U⟩))))=D (L W1):=SC;have j:=h.im (show Cd 2 by unfold Cd;omega);have ia:=j.own.1;have Q:=j.blk.lt;have M:cS H y O _ (λi=>4<=i):=h.to u (λk e=>by subst e;rw[ia];decide) (λi hi=>aaF) B λk t e=>by rcases Y k e with T|T;omega;rw[S k T];have:=N k T;exact⟨aZ,bG⟩
 refine⟨y,⟨M.lo,M.fx,λ_=>⟨?_,j.map.cF u λe=>?_,j.oob,j.cur.to u (λ_ _=>trivial) (λk t e=>?_) λ_ _ _=>aI trivial,j.got.to u (λ_ _=>trivial) (λk t e=>?_) λ_ _ _=>aI trivial,⟨(B _ Q).trans ia,(B _ j.map.lt).trans j.own.2.1,λk t=>(B k (j.cur.blk k t).2).trans (j.own.2.2.1 k t),λk t=>(B k (j.got.blk k t).2).trans (j.own.2.2.2 k t)⟩,j.len,j.kn⟩,λ_=>⟨z,rfl,?_⟩,λn x _ hx=>M.brk n x aZ hx,λc l _ hl=>M.got c l aZ hl⟩,B⟩;simpa using (j.blk.below k1 Q).cH 2 (aj (I ⟨z,0,U⟩));have A:=j.blk;rw[<- e]at A;exact j.map.cells A;obtain⟨_,_,_,A⟩:=j.cur.own t;exact absurd (A.jK (e▸j.blk)) bG;obtain⟨_,_,_,A⟩:=j.got.own t;exact absurd (A.jK (e▸j.blk)) bG;rw[show (λk=>y k=3)=C from funext λk=>propext (o4 k)];exact hN.to (bf.dx (X:=λk=>k=H.gw) rfl 2 _) (λk e=>aI (e▸Q)) (λk t e=>by have:=N k t;omega) (λk _ e=>Y k e) λk t=>by rw[S k t];decide
theorem aDj:(prog.info? 78).map (λi=>(i.zero,i.size,i.bytes))=I (I (F U 0 0),1,24):=by rfl
theorem TGG:gQ aR 101 78 (F U 0 0) 1 24:=⟨underlying101,aDj,rfl,bG⟩
theorem aDk:(prog.info? 106).map (λi=>(i.zero,i.size,i.bytes))=I (I (aj U),1,8):=by rfl
theorem TDk:gQ aR 103 106 (aj U) 1 8:=⟨underlying103,aDk,rfl,bG⟩
theorem ah5{Y base e l v w}(h:bK Y base e eH l v w):bK (λ_=>True) base e eH l v w:=by obtain⟨z,t,y,j⟩:=h;have:=Rm (j w (bf.rf _ _));exact⟨z,t,y,λA _=>by grind [IC]⟩
def sD(par bj:List Int)(room:Nat):Int:=if iH par then if mU par bj then if jM (fA (eN eZ))<=room then 0 else 90 else 1 else 120
def yK(par bj:List Int)(room:Nat)(w:aP)(e:Ending)(w':aP):Prop:=if sD par bj room=0 then ∃H own,e=ak (au #[aj (I ⟨H.gw,0,U⟩),G J 0])/\cS H own (mC par bj room) w' eJ/\(∀k,k<D (L w)->own k=0)/\K w w'
 else e=ak (au #[aj U,G J (sD par bj room)])/\K w w'
theorem yK.ok{par bj room w e w'} H own(h:sD par bj room=0/\e=ak (au #[aj (I ⟨H.gw,0,U⟩),G J 0])/\cS H own (mC par bj room) w' eJ/\(∀k,k<D (L w)->own k=0)/\K w w'):yK par bj room w e w':=by unfold yK;rw[bV h.1];exact⟨H,own,h.2⟩
theorem yK.no{par bj room w e w'}(h:∃c:Int,(c==0)=az/\sD par bj room=c/\e=ak (au #[aj U,G J c])/\K w w'):yK par bj room w e w':=by obtain⟨c,hc,j,h⟩:=h;unfold yK;rw[j,bQ GH];exact h
theorem ayY{par bj:List Int}{room j:Nat}(C:iH par=aA)(A:j<Z par)(z:room<=1048576) :zU (pW par bj room j) j=(if sD par bj room=0 then pW par bj room (j+1)else pW par bj room j,sD par bj room):=by
 have e:=DQ (jr.new z);have B:s5 (pW par bj room j) j=if jM (fA (eN eZ))<=room then (oB (pW par bj room j) j (xq j par bj ⟨fA (eN eZ),room⟩ (eN eZ)),0)else (pW par bj room j,90):=by unfold s5;simp only[Int.toNat_natCast,aaE A,Option.map_some,Option.getD_some,e];rfl
 unfold zU sD;rw[bV C];show (if mU par bj=aA then _ else _)=_;by_cases t:mU par bj=aA;rw[bV t,bV t];by_cases y:jM (fA (eN eZ))<=room;rw[bV y,bV rfl,ayX A y z];rw[bQ y,B,bQ y];rfl;rw[bQ t,bQ t];rfl
theorem afj par bj(room:Nat) v1 v2 w(y:bD eH par v1 w)(t:bD eH bj v2 w)(fR:Z par<=1000000)(nA:Z bj<=1000000)(dC:room<=1048576) :aK aR 16 #[v1,v2,G J room] w (yK par bj room w):=by
 have zj:=aY λe w' H own h=>yK.ok (par:=par) (bj:=bj) (room:=room) (w:=w) (e:=e) (w':=w') H own h
 have uv:=aY λe w' h=>yK.no (par:=par) (bj:=bj) (room:=room) (w:=w) (e:=e) (w':=w') h
 generalize yK par bj room w=PP at *;have C1:=aY (Nf par v1 w y fR);by_cases R:iH par=aA
 case neg =>
  have Aj:zT par=120:=bQ R;have HF:=aY λw' k=>uv.aX _ w' ⟨(120:Int),bG,by unfold sD;rw[bQ R],rfl,k⟩
  rw[Aj]at C1;have hs1:=bH y;have jI:=bH t;obtain⟨A1,c1,rfl⟩:=hs1;obtain⟨A2,c2,rfl⟩:=jI;go_in;go_wp2_with fail
  apply bW C1.aX;intro Y k1;go_wp2;exact HF.aX _ k1
 have:=(rr R).2;have Aj:zT par=0:=bV R;rw[Aj]at C1;have H1:=aY y;have H2:=aY t;obtain⟨A1,c1,rfl⟩:=bH y;obtain⟨A2,c2,rfl⟩:=bH t;have HS:=aY (aB R dC);have pg:=λW=>ah4 (T:=eH) FZ (Z bj) aZ 0 rfl rfl (λ_=>rfl) aZ W
 have hm2:=λW=>ah4 (T:=BG) TGG (Z bj) aZ (F U 0 0) rfl rfl (λ_=>⟨rfl,rfl⟩) aZ W
 have HM1:=aY pg;have HM2:=aY hm2;have mk1:=λW=>(pg W).1
 have mk2:=λW=>(hm2 W).1
 have kk:=K.rf w;go_in;go_wp2_with fail
 apply eu C1.aX kk;intro Y k1 MY;have Mk:=aY λW (k:K Y W)=>cM H1.aX (MY.tr k)
 have Dc:=aY λW (k:K Y W)=>cM H2.aX (MY.tr k)
 go_wp2_with fail
 have qs:=aB mk1 mk2;refine aeH 11 [1,3,4,7,10] [([],[]),([0],[(21,0)]),([],[]),([2],[(23,2)]),([],[]),([],[]),([5],[(26,5)]),([6],[(27,6)]),([],[]),([8],[(29,8)]),([9],[(30,9)]),([1,3,4,7,10],[(22,1),(24,3),(25,4),(28,7),(31,10)]),([11],[(32,11)]),([0,1,2,3,4,5,6,7,8,9,10,11,12],[(33,12)])] 82 ?_;refine bB.i ?_;refine bB.ints (D (L Y)) par FZ aZ (λ_ k=>k.size) (λV W kW hp=>?_) ?_;exact aku;refine bB.i ?_;refine bB.ints (D (L Y)) bj FZ aZ (λ_ k=>k.size) (λV W kW hp=>?_) ?_;exact akv;refine bB.op (λv W=>∃b,v=.map (I b)/\D (L Y)<=b/\fP encI W b []) (λ_ _ _ ⟨b,e,y,t⟩ k=>⟨b,e,y,t.st k⟩) (λV W kW hp=>?_) ?_
 .simp[dI,aL,bT,KC underlying100,fk];exact Zl
 iterate 2 refine bB.i ?_
 refine bB.op (λv W=>(∃b,v=F (I ⟨b,0,U⟩) (Z bj) (Z bj))/\bK (λ_=>True) (D (L Y)) 3 eH (List.replicate (Z bj) 0) v W) (λ_ _ _ ⟨e,t⟩ k=>⟨e,t.st k⟩) (λV W kW hp=>?_) ?_
 .simp only[dN,bZ,cC,dK,dL,bS]at hp;simp[dI,bR,aC,hp,aL,bT,mk1,fk,go_sem];exact⟨(HM1.aX W).2.low kW.size,(K.rf W).al _⟩
 iterate 2 refine bB.i ?_
 refine bB.op (λv W=>(∃b,v=F (I ⟨b,0,U⟩) (Z bj) (Z bj))/\bK (λ_=>True) (D (L Y)) 78 BG (List.replicate (Z bj) (F U 0 0)) v W) (λ_ _ _ ⟨e,t⟩ k=>⟨e,t.st k⟩) (λV W kW hp=>?_) ?_
 .simp only[dN,bZ,cC,dK,dL,bS]at hp;simp[dI,bR,aC,hp,aL,bT,mk2,fk,go_sem];exact⟨(HM2.aX W).2.low kW.size,(K.rf W).al _⟩
 refine⟨λk O=>?_,λV W kW hne hA=>?_⟩
 .simp at O;rcases O with rfl|rfl|rfl|rfl|rfl;refine⟨_,_,rfl,rfl,rfl,λV W kW hp=>?_⟩;simp only[dN,bZ,cC,dK,dL,bS]at hp;obtain⟨v,w',y,t,-⟩:=Ya par FZ (ty:=23) (s:=.const (F U 0 0)) (u:=.tmp 21) (ρ:=bR [(21,0)] _ V) (w:=W) aZ rfl amG;exact⟨v,w',y,t⟩;refine⟨_,_,rfl,rfl,rfl,λV W kW hp=>?_⟩;simp only[dN,bZ,cC,dK,dL,bS]at hp;obtain⟨v,w',y,t,-⟩:=Ya bj FZ (ty:=23) (s:=.const (F U 0 0)) (u:=.tmp 23) (ρ:=bR [(23,2)] _ V) (w:=W) aZ rfl amH;exact⟨v,w',y,t⟩;exact Zm
  .refine⟨_,_,rfl,rfl,rfl,λV W kW hp=>⟨F (I ⟨D (L W),0,U⟩) (Z bj) (Z bj),W.alloc (aq (madeCells #[G J 0] (Z bj)) 3),?_,λb B=>?_⟩⟩
   .simp only[dN,bZ,cC,dK,dL,bS]at hp;simp[bR,aC,hp,aL,bT,mk1,go_sem]
   injection B with B;subst B;simp
  refine⟨_,_,rfl,rfl,rfl,λV W kW hp=>⟨F (I ⟨D (L W),0,U⟩) (Z bj) (Z bj),W.alloc (aq (madeCells #[F U 0 0] (Z bj)) 78),?_,λb B=>?_⟩⟩
  .simp only[dN,bZ,cC,dK,dL,bS]at hp;simp[bR,aC,hp,aL,bT,mk2,go_sem]
  injection B with B;subst B;simp
 simp only[bZ,cC,dF,bS,Nat.reduceAdd]at hA;obtain⟨e0,gG,e2,dS,⟨b4,e4,lr,Ej⟩,e5,e6,⟨⟨b7,e7⟩,ke⟩,e8,e9,⟨⟨b10,iV⟩,qP⟩,-⟩:=hA;obtain⟨A5,c5,e1⟩:=gG.slice;obtain⟨A6,c6,e3⟩:=dS.slice;rw[e1]at gG;rw[e3]at dS;rw[e7]at ke;rw[iV]at qP;have hap:∀b,I b7=I b->aW (F A5 (Z par) c5)≠I b/\aW (F A6 (Z bj) c6)≠I b:=λb B=>by injection B with B;subst B;constructor;intro e;exact hne 7 bu 1 bu bG rfl rfl b7 Zn (by rw[e1];exact e);intro e;exact hne 7 bu 3 bu bG rfl rfl b7 Zn (by rw[e3];exact e)
 apply bN.pure;rfl;simp[bR,aC,cP,e1,e3,e4,e7,iV,aL,bT,go_sem];rfl;refine bN.val (aj (I ⟨D (L W),0,U⟩)) (aU W (aq #[F A5 (Z par) c5,F A6 (Z bj) c6,aj U,F U 0 0,.map (I b4),F (I ⟨b7,0,U⟩) (Z bj) (Z bj),F (I ⟨b10,0,U⟩) (Z bj) (Z bj)] 105)) rfl Zo ?_;apply bN.pure;rfl;simp[bR,aC,cP,aL,bT,go_sem];rfl;refine bN.nil ?_;simp only[iO,Act.put,xm,vU,vT,Nat.reduceAdd,cP,e0,e1,e2,e3,e4,e5,e6,e7,e8,e9,iV];have hbk:=bn.new W 105 #[F A5 (Z par) c5,F A6 (Z bj) c6,aj U,F U 0 0,.map (I b4),F (I ⟨b7,0,U⟩) (Z bj) (Z bj),F (I ⟨b10,0,U⟩) (Z bj) (Z bj)];have ka:=hbk.cG;generalize hWa:W.alloc _=Wa at *;generalize Q:D (L W)=gw at *;generalize hvp:F A5 (Z par) c5=vp at *;generalize hvh:F A6 (Z bj) c6=vh at *;generalize AY:F (I ⟨b7,0,U⟩) (Z bj) (Z bj)=vc at *;generalize Bh:F (I ⟨b10,0,U⟩) (Z bj) (Z bj)=vg at *;have hz1:=MY.size;have:=kW.size;have HN:Hid (G8 w par bj room gw b4 vp vh vc vg [] (F U 0 0) Wa):=aY ⟨hbk,Ej.st ka,((ah5 gG).st ka).low hz1,((ah5 dS).st ka).low hz1,(ke.st ka).low hz1,(qP.st ka).low hz1,bK.nil _ _ _ _ _,by rw[<- AY];exact hap,λi hi=>NW,List.nodup_nil,⟨aZ,aZ⟩,(MY.tr kW).tr ka⟩;go_wp2_with fail
 go_loopw [36] (fun i W=>∃j:Nat,j<=Z par/\i=G J j/\Hid (∃ds vd,G8 w par bj room gw b4 vp vh vc vg ds vd W/\Z ds=j)) (fun i _=>Z par-(aO i).toNat)
 case atStart=>exact⟨0,fw _,rfl,aY ⟨_,_,HN.aX,rfl⟩⟩
 case round =>
  obtain⟨j,hj,rfl,HJ⟩:=hrel;by_cases hlt:j<Z par
  .have cE:(j:Int)<Z par:=aZ;obtain⟨ds,vd,hN,ER⟩:=HJ.aX;have HD:=aY ER;have HN:=aY hN;go_wp2_with fail
   apply bW (akb room wr dC);rintro w2⟨hDk,k2⟩;have q:=(HN.aX.blk.bM k2).cell;have HDk:=aY hDk;generalize hgd:D (L wr)=gd at *;have kA:=K.new w2 (aq #[aj (I ⟨gd,0,U⟩)] 106);have M:=(HN.aX.d.st k2).st kA;have kW:=(HN.aX.k.tr k2).tr kA;have hz2:=kW.size;have hrw:=fL.new (S:=BG) (e:=106) (N:=λk=>True\/aW vd=I k) (v:=aj (I ⟨gd,0,U⟩)) (x:=aj (I ⟨gd,0,U⟩)) (w:=w2) (λW u=>⟨rfl,rfl⟩) 0 (fw _);have HG:=aY (aB hgd (k2.tr kA));have ER:Z (ds.map λg=>aj (I ⟨g,0,U⟩))<16:=by rw[List.length_map,HD.aX];omega
   go_wp2_with (at_builtin;refine j0 rfl _ _ 103 rfl _ 1 8 TDk rfl rfl M _ rfl (aj (I ⟨gd,0,U⟩)) ?p1 ?p2 ?p3 ?_)
   case p1=>exact hrw
   case p2=>omega
   case p3=>exact hz2
   intro v9 w9 cX dW gD cV;obtain⟨ao3,hN9⟩:bn w9 gw 105 #[vp,vh,aj U,vd,.map (I b4),vc,vg]/\G8 w par bj room gw b4 vp vh vc vg (ds++[gd]) v9 (aV w9 ⟨gw,3,U⟩ v9):=by obtain⟨rfl,kg⟩:=HG.aX;exact HN.aX.push kg (HDk.aX.st ((K.rf w2).al _)) cX dW
   have HN9:=aY (aB hN9 (show Z (ds++[gd])=j+1 by rw[fg,HD.aX];rfl));obtain⟨A9,n9,c9,e9⟩:∃A n c,v9=F A n c:=by obtain⟨A,c,e⟩:=cX.slice;exact⟨_,_,_,e⟩
   subst e9;have q:=ao3.cell;have z:=ao3.frozen;go_wp2;go_roundw
   case rel=>exact⟨j+1,aZ,dh,aY ⟨_,_,HN9.aX.1,HN9.aX.2⟩⟩
   case measure=>simp[aO];omega
  have cE:¬(j:Int)<Z par:=aZ;have he:j=Z par:=aZ;obtain⟨ds,vd,hN,ER⟩:=HJ.aX;obtain⟨own,ho⟩:=hN.ov (ER.trans he);have HO:=aY (aB ho hN.k);go_wp2_with fail
  go_loopw [59] (fun i W=>∃j:Nat,j<=Z par/\i=G J j/\Hid (∃H own,cS H own (pW par bj room j) W Cd/\H.gw=gw/\(∀k,k<D (L w)->own k=0)/\(∀k,own k≠3)/\K w W/\(j=0\/sD par bj room=0))) (fun i _=>Z par-(aO i).toNat)
  case atStart=>exact⟨0,fw _,rfl,aY ⟨_,_,HO.aX.1.1,rfl,HO.aX.1.2.1,HO.aX.1.2.2,HO.aX.2,aI rfl⟩⟩
  case round =>
   obtain⟨j,hj,rfl,HJ⟩:=hrel;by_cases hlt:j<Z par
   .have cE:(j:Int)<Z par:=aZ;obtain⟨H,own,M,Q,uq,jk,hK,hz⟩:=HJ.aX;obtain⟨R,dC⟩:=HS.aX;have C:=aeZ M aaF (λn=>aaF) R (by simp[pW]) nA (aaE hlt) (jr.new dC) bG;rw[ayY R hlt dC,Q]at C;have HC:=aY C;have HX:=aY (aB uq (aB jk hK));have HZ:Hid (sD par bj room=sD par bj room):=aY rfl;generalize hx:sD par bj room=nx at HC HZ;have rT:=aY hx;go_wp2_with fail
    refine HC.aX.mono ?_;rintro e w3⟨rfl,H',dw,y,t,h3,h4,h5⟩;have HK:Hid (K w w3):=aY (h3.k HX.aX.2.2 λk O=>by
     obtain⟨a,b,c⟩:=HX.aX;by_cases h9:k<D (L w);have:=a k h9;omega;omega)
    by_cases hc:nx=0
    .subst hc;have HE:=aY (show ∃H own,cS H own (pW par bj room (j+1)) w3 Cd/\H.gw=gw/\(∀k,k<D (L w)->own k=0)/\(∀k,own k≠3)/\K w w3/\(j+1=0\/sD par bj room=0)from ⟨H',dw,by rw[bV rfl]at y;exact y,t,λk O=>by
      obtain⟨a,b,c⟩:=HX.aX;have:=c.size;rw[h4 k aZ];exact a k O,λk O=>HX.aX.2.1 k (h5 k O),HK.aX,aJ rT.aX⟩)
     go_wp2;go_roundw
     case rel=>exact⟨j+1,aZ,dh,aY aCb⟩
     case measure=>simp[aO];omega
    have hcz:(nx==0)=false:=GH;have HF:=aY (uv.aX _ w3 ⟨nx,hcz,rT.aX,rfl,HK.aX⟩);go_wp2;exact HF.aX
   have cE:¬(j:Int)<Z par:=aZ;have he:j=Z par:=aZ;obtain⟨H,own,M,Q,uq,jk,hK,hz⟩:=HJ.aX;have HZ:=aY (hz.resolve_left (by have:=(rr HS.aX.1).1;omega));rw[he]at M;have C:=aw4 par (F A1 (Z par) c1) wr (cM H1.aX hK) HS.aX.1;have B:=(M.im (show Cd 2 by unfold Cd;omega)).blk;rw[Q]at B;have HC:=aY C;have HX:=aY (aB M (aB Q (aB uq (aB jk hK))));have HB:=aY B;have HEQ:=aY (aAX par bj room);go_wp2_with fail
   apply dP HC.aX;rintro x w4⟨⟨gn,rfl,C,hN,hC⟩,k4⟩;have hb4:=HB.aX.bM k4;have q:=hb4.cell;have z:=hb4.frozen;have HF:Hid (∃H own,H.gw=gw/\cS H own (mC par bj room) (aV w4 ⟨gw,2,U⟩ (aj (I ⟨gn,0,U⟩))) eJ/\(∀k,k<D (L w)->own k=0)/\K w (aV w4 ⟨gw,2,U⟩ (aj (I ⟨gn,0,U⟩)))):=aY (by
    obtain⟨M,Q,uq,jk,hK⟩:=HX.aX;obtain⟨dw,y,t⟩:=M.aD1 jk k4 hN hC;have hz:=hK.size;refine⟨_,dw,?_,by rw[<- HEQ.aX,<- Q];exact y,λk O=>(t k aZ).trans (uq k O),(bf.dx (X:=λk=>k=gw) rfl 2 _).k (hK.tr k4) λk e=>?_⟩;exact Q;by_cases h9:k<D (L w);have:=uq k h9;have tz:=(M.im (show Cd 2 by unfold Cd;omega)).own.1;rw[Q,<- e]at tz;omega;omega)
   go_wp2;obtain⟨H,own,e1,e2,e3,e4⟩:=HF.aX;exact zj.aX _ _ H own ⟨HZ.aX,by rw[e1];rfl,e2,e3,e4⟩
theorem avw par bj room y t w(M:bD eH par y w)(B:bD eH bj t w)(ht:iH par=aA)(z:mU par bj=aA)(C:jM (fA (eN eZ))<=room)(A:room<=1048576) :aK aR 16 #[y,t,G J room] w λe j=>∃H own,e=ak (au #[aj (I ⟨H.gw,0,U⟩),G J 0])/\cS H own (mC par bj room) j eJ/\(∀k,k<D (L w)->own k=0)/\K w j:=by refine (afj par bj room y t w M B Zk (by have:=NN z;omega) A).mono ?_;intro e j h;unfold yK sD at h;rw[bV ht,bV z,bV C,bV rfl]at h;exact h
theorem atr es v w(h:bD eB es v w)(R:Z es<=1000000)(N:∀e∈es,Z e<=1000000) :aK aR 70 #[v] w λe w'=>∃t,e=ak t/\cW (D (L w)) (D (L w)) 35 eB es t w'/\K w w':=by
 obtain⟨T,d,rfl,B,O⟩:=h;have M:=aY N;have H:=K.rf w;go_in;go_wp2_with fail
 go_loopw [3,5,8] (fun o _ i W=>∃j:Nat,j<=Z es/\i=G J j/\cW (D (L w)) (D (L w)) 35 eB (es.take j) o W/\K w W) (fun _ _ i _=>Z es-(aO i).toNat)
 case atStart=>exact⟨0,aZ,rfl,ZH,H⟩
 case round => obtain⟨j,S,rfl,hO,kr⟩:=hrel;by_cases hlt:j<Z es;have y:(j:Int)<Z es:=aZ;obtain⟨z,A,X,rfl,Y,hcl,⟨C,rfl,jH⟩,hcell⟩:=Lg B j hlt bG;have Q:wr.cell? ⟨z,A+j,U⟩=I C:=YM;have HT:Hid (es.take (j+1)=es.take j++[es[j]]):=aY Ot;have V:=M.aX _ (dJ hlt);exact ak4;have y:¬(j:Int)<Z es:=aZ;exact akK
section
variable {S:Nat->Prop}{W W2:aP}{H:nY}{own:Nat->Nat}{O:cT}{par bj:List Int}{k:Nat}
theorem cS.ao4(h:cS H own O W S)(z:S 2)(hs:oA O){m}(hm:m<Z O.bj):∃b j c,H.vc=F (I ⟨b,j,U⟩) (Z O.cur) c/\∀t,K W t->t.cell? ⟨b,j+m,U⟩=I (G J ((O.cur[m]?).getD 0)):=by obtain⟨A,c,e,y,-⟩:=(Oi (M:=λ_=>False) (h.im z).cur λ_ _=>id).now;have:m<Z O.cur:=aaG;obtain⟨b,j,rfl,C⟩:=ints_at y aZ;grind
theorem agr{c}(j:oh O c=aA):∃m:Nat,c=(m:Int)/\m<Z O.bj:=by unfold oh at j;simp only[fI,decide_eq_true_eq]at j;obtain⟨m,rfl⟩:=Int.eq_ofNat_of_zero_le j.1;grind
def I2(O:cT)(c:Int):Int:=if oh O c then (O.cur[c.toNat]?).getD 0 else 0
theorem asT(h:cS H own O W S)(j:S 2)(hs:oA O) c :aK aR 31 #[aj (I ⟨H.gw,0,U⟩),G J c] W λe w'=>e=ak (G J (I2 O c))/\w'=W:=by have C1:=aY (aeN h j c);have q:=(h.im j).blk.cell;have HR:Hid (I2 O c=if oh O c then (O.cur[c.toNat]?).getD 0 else 0):=aY rfl;generalize I2 O c=R at *;cases hc:oh O c;rw[hc]at C1 HR;exact amI;rw[hc]at C1 HR;obtain⟨m,rfl,hm⟩:=agr hc;obtain⟨b,z,A,e,t⟩:=h.ao4 j hs hm;have:=t W (K.rf W);have:(m:Int)<Z O.cur:=aaG;rw[e]at q;simp only[if_true,Int.toNat_natCast]at HR;generalize (O.cur[m]?).getD 0=x at *;exact amI
end
section
variable {S:Nat->Prop}{W W1:aP}{H:nY}{own:Nat->Nat}{O:cT}
theorem bK.UB{α T Y base e}{l:List α}{v}(h:bK Y base e T l v W)(y:0<Z l):∃b j,v=F (I ⟨b,0,U⟩) (Z l) j:=by obtain⟨A,t,-⟩:=h;rcases t.2 with ⟨-,z⟩|⟨g,j,cur,e,-⟩;omega;exact⟨g,j,e⟩
theorem cS.ao5(h:cS H own O W S)(V:S 2){m}(hm:m<Z O.cur) x :∃b A cur,H.vc=F (I ⟨b,0,U⟩) (Z O.cur) A/\own b=2/\bn W b 3 cur/\cS H own { O with cur:=O.cur.set m x } (aV W ⟨b,m,U⟩ (G J x)) S:=by
 obtain⟨N,Q,a3,z,M,⟨T,b2,B,b4⟩,Y,R⟩:=h.im V;obtain⟨b,A,e⟩:=z.UB aZ;obtain⟨_,_,cur,hb⟩:=z.own (b:=b) E9;have ob:=B b E9;have u:bf (λk=>k=b) W (aV W ⟨b,m,U⟩ (G J x)):=bf.dx (X:=λk=>k=b) rfl m _;have t:cS H own O (aV W ⟨b,m,U⟩ (G J x)) λj=>S j/\j≠2:=h.to u (λk e=>bL) (λ_ h=>h.1) (λ_ _=>rfl) λk C e=>aaz
 refine⟨b,A,cur,e,ob,hb,t.lo,t.fx,λ_=>⟨N.cF u λe=>by subst e;exact absurd (N.jK hb) (by decide),Q.cF u λe=>(e▸Q).cells hb,a3,?_,M.to u (λ_ _=>trivial) (λk C e=>?_) λ_ _ _=>aI trivial,⟨T,b2,B,b4⟩,Y,R⟩,λh3=>t.dV ⟨h3,aZ⟩,λn y hn=>t.brk n y ⟨hn,aZ⟩,λc l hc=>t.got c l ⟨hc,aZ⟩⟩;rw[e]at z|-;have:=z.abP hm (y:=x) (cs:=[G J x]) rfl (λ_ _=>rfl);simpa [ei,show eH.size=1 from rfl]using this;obtain⟨_,_,Ua,hb2⟩:=M.own C;subst e;exact Fe
theorem cS.aFq(h:cS H own O W S)(h2:S 2){c}(hS:S (2*c+5)){l}(hl:O.got[c]?=I l){v v'}(hv:H.vs[c]?=I v){x}(u1:bf (λk=>aW v=I k) W W1)(hO:bK (λk=>own k≠0) 0 43 (abf eB) (l++[x]) v' W1)(hat:∀b,aW v'=I b->aW v=I b\/D (L W)<=b) :∃b cap cur,H.vg=F (I ⟨b,0,U⟩) (Z O.got) cap/\own b=2/\bn W1 b 78 cur/\∃B,cS { H with vs:=H.vs.set c v' } B { O with got:=O.got.set c (l++[x]) } (aV W1 ⟨b,c,U⟩ v') S/\∀k,k<D (L W)->B k=own k:=by
 obtain⟨a1,a2,a3,a4,R,⟨b1,b2,b3,b4⟩,a7,a8⟩:=h.im h2;have hcl:=(aF.1 hl).1;obtain⟨v0,V,nV,T⟩:=h.got c l hS hl;rw[hv]at V;injection V with V;subst V;obtain⟨b,cap,e⟩:=R.UB (W:=W) aZ;rw[a7]at e;obtain⟨_,dR,cur,hb⟩:=R.own (b:=b) E9;have ob:=b4 b E9;have cK:=hb.cF u1 λe1=>bL
 have u2:bf (λk=>k=b) W1 (aV W1 ⟨b,c,U⟩ v'):=bf.dx (X:=λk=>k=b) rfl c _;have hz2:=u2.size;have u:bf (λk=>aW v=I k\/k=b) W (aV W1 ⟨b,c,U⟩ v'):=(u1.more λk e=>aI e).tr (u2.more λk e=>aJ e);have hX:∀k,aW v=I k\/k=b->own k=2*c+5\/own k=2:=λk z=>z.imp (T k) λe=>bL
 obtain⟨B,rJ⟩:∃B:Nat->Nat,B=λk=>if D (L W)<=k then (if aW v'=I k then 2*c+5 else 0)else own k:=⟨_,rfl⟩
 have C:∀k,k<D (L W)->B k=own k:=λk z=>bL
 have iR:∀k,D (L W)<=k->B k≠0->aW v'=I k/\B k=2*c+5:=λk z M=>by grind
 have aKa:∀k,D (L W)<=k->aW v'=I k->B k=2*c+5:=λk z t=>by grind
 have N:cS H B O (aV W1 ⟨b,c,U⟩ v') λj=>S j/\j≠2/\j≠2*c+5:=h.to u (λk z=>by have:=hX k z;constructor <;> omega) (λ_ h=>h.1) C λk z M=>by obtain⟨g1,g2⟩:=iR k z M;have:=(hO.blk k g1).2;exact⟨aZ,aZ⟩
 have aFr:∀k,aW v'=I k->k≠b:=λk z t=>by grind
 have aFs:∀k,aW v'=I k->B k=2*c+5:=λk z=>by grind
 refine⟨b,cap,cur,e,ob,cK,B,⟨N.lo,N.fx,λ_=>⟨a1.cF u λt=>?_,a2.cF u λt=>?_,a3,a4.to u (λ_ _=>trivial) (λk z t=>?_) λ_ _ _=>aI trivial,?_,⟨(C _ a1.lt).trans b1,(C _ a2.lt).trans b2,λk z=>(C k (a4.blk k z).2).trans (b3 k z),λk z=>(C k (R.blk k z).2).trans (b4 k z)⟩,bL,a8⟩,λh3=>N.dV ⟨h3,aZ,aZ⟩,λn y M=>N.brk n y ⟨M,aZ,aZ⟩,λc2 l2 hc Q=>?_⟩,C⟩;rcases t with t|t
 .grind
 subst t;exact absurd (a1.jK hb) bG;rcases t with t|t;have:=T _ t;omega;exact (t▸a2).cells hb;rcases t with t|t;have:=T _ t;have:=b3 k z;omega;obtain⟨_,_,Ua,hb2⟩:=a4.own z;subst t;exact Fe;have a6:=R.to u1 (λ_ _=>trivial) (λk z t=>by have:=T _ t;have:=b4 k z;omega) (Y':=λ_=>True) λ_ _ _=>aI trivial
 have e6:=e;rw[<- a7]at e6;rw[e6]at a6;show bK _ 0 _ BG (H.vs.set c v') H.vg _;rw[e6];obtain⟨A,cc,rfl⟩:=hO.slice;have:=a6.abP (j:=c) aZ (y:=F A (Z (l++[x])) cc) (cs:=[F A (Z (l++[x])) cc]) rfl (λ_ _=>⟨rfl,rfl⟩);simpa [ei,show BG.size=1 from rfl]using this;by_cases Y:c=c2;subst Y;simp only[List.getElem?_set_self hcl,Option.some.injEq]at Q;subst Q;exact⟨v',by rw[List.getElem?_set_self (by omega)],hO.to u2 (λk t=>by subst t;omega) aFr λk z M=>by
  by_cases h9:k<D (L W);exact aI (C k h9▸M);exact aJ (iR k aZ M).1,aFs⟩
 rw[List.getElem?_set_ne Y]at Q;obtain⟨v2,g1,g2⟩:=N.got c2 l2 ⟨hc,aZ,aZ⟩ Q;exact⟨v2,by rw[List.getElem?_set_ne Y];exact g1,g2⟩
end
section
variable {W W2:aP}{H:nY}{own:Nat->Nat}{O:cT}
theorem cS.abU(h:cS H own O W eJ)(A:oA O) c :(∃d:Int,(d != 0)=aA/\oD H O c=(aj U,d)/\(∀ {α:Type} (z:α) f,pQ O c z f=(O,z,d))/\(oh O c&&(eK O (pP O c)).isSome)=az)\/∃n B gd g,n<Z O.eV/\H.ds[n]?=I gd/\eX H.bC (n:Int)=I (aj (I ⟨g,0,U⟩))/\eK O (n:Int)=I B/\oD H O c=(aj (I ⟨g,0,U⟩),0)/\pP O c=(n:Int)/\oh O c=aA /\(∀j,K W j->fB (λk=>own k≠0/\own k≠2*n+4) (λk=>own k≠2*n+4/\k<D (L j)) g gd B j)/\∀ {α:Type} (z:α) f,pQ O c z f=(oB O n (f B).1,(f B).2):=by
 unfold oD pQ;cases oh O c;exact aI ⟨1,rfl,rfl,λ_ _=>rfl,rfl⟩;simp only[if_true];cases hu:eK O (pP O c)with
 | none=>exact aI ⟨210,rfl,rfl,λ_ _=>rfl,rfl⟩
 | some B =>
  have t:=hu;unfold eK mi iW at t;split at t
  .next hi =>
   simp only[fI,decide_eq_true_eq]at hi;obtain⟨n,M⟩:=Int.eq_ofNat_of_zero_le hi.1;rw[M]at hu|-;obtain⟨gd,g,N,y,-⟩:=h.up (pB n) A.ln hu;rw[y];refine aJ ⟨n,B,gd,g,bL,N,y,hu,rfl,rfl,trivial,λj C=>?_,λ_ _=>rfl⟩;obtain⟨S,T,Q,V,R⟩:=(h.st C).up (pB n) A.ln hu;grind
  cases t
theorem cS.via{α fb}{args:aQ->Array aQ}{ret:α×Int->aQ}(h:cS H own O W eJ)(T:oA O) c z f(hc:∀m B,eK O m=I B->∀X aa g gd j,K W j->fB X aa g gd B j->aK aR fb (args (aj (I ⟨g,0,U⟩))) j λe w'=>e=ak (ret (f B).2)/\fB X aa g gd (f B).1 w'/\bf (λk=>¬aa k) j w') :(∃d:Int,(d != 0)=aA/\oD H O c=(aj U,d)/\pQ O c z f=(O,z,d)/\(oh O c&&(eK O (pP O c)).isSome)=az)\/∃g A r,oD H O c=(aj (I ⟨g,0,U⟩),0)/\pQ O c z f=(A,r)/\(oh O c&&(eK O (pP O c)).isSome)=aA/\∀j,K W j->aK aR fb (args (aj (I ⟨g,0,U⟩))) j λe w'=>e=ak (ret r)/\eW H own A W w':=by
 rcases h.abU T c with ⟨d,M,y,N,C⟩|⟨n,B,gd,g,M,y,N,C,R,h6,h7,S,Y⟩
 .grind
 exact aJ ⟨g,_,_,R,Y z f,bL,λj t=>(hc _ _ C _ _ _ _ j t (S j t)).mono λe w' ⟨e1,V,Q⟩=>⟨e1,eW.k t ((h.st t).ao2 M y N V Q)⟩⟩
theorem eW.keep{y t cs W1 j}(h:eW H (lh own 1 W W1) y W1 W2)(hg:D (L W)<=j)(hb:bn W1 j t cs):bn W2 j t cs:=by obtain⟨_,_,_,_,u,_⟩:=h;exact hb.cF u λe=>by grind [lh]
theorem eW.id3{t z}(h:eW H (lh own 1 W (aU W (aq z 42))) t (aU W (aq z 42)) W2) x y u(hz:z.size=3) :
 eW H own t W (((aV W2 ⟨D (L W),0,U⟩ x).setCell ⟨D (L W),1,U⟩ y).setCell ⟨D (L W),2,U⟩ u)/\∀i,(((aV W2 ⟨D (L W),0,U⟩ x).setCell ⟨D (L W),1,U⟩ y).setCell ⟨D (L W),2,U⟩ u).cell? ⟨D (L W),i,U⟩=#[x,y,u][i]?:=by
 have j:=bn.new W 42 z
 refine⟨h.EJ j.cG (bP _) j.lt (bf.sets (X:=λk=>k=D (L W)) rfl [x,y,u] 0 W2),?_⟩
 have:=(((h.keep (bP _) j).cH 0 x).cH 1 y).cH 2 u
 obtain⟨l⟩:=z
 match l,hz with
 | [a,b,c],_=>exact this.cell
theorem att(h:cS H own O W eJ)(hs:oA O) c(hc:dA c)(hn:∀n B,eK O n=I B->B.calls+1<4611686018427387904) :aK aR 58 #[aj (I ⟨H.gw,0,U⟩),G J c] W λe w'=>e=ak (au #[dD (lQ O c).2.1,G J (lQ O c).2.2])/\eW H own (lQ O c).1 W w':=by
 have gj:=bn.new W 42 #[G J 0,G E 0,G E 0];have N:=h.EJ gj.cG;have A:=aY (Ng N p2 pB hs c);have Q:=aY λ(M:cT) (S:aP) (hN:eW H _ M _ S)=>aB (hN.keep (bP _) gj) (@eW.id3 W S H own M _ hN)
 have HV:=N.via (ret:=λr=>au #[dD r.1,G J r.2]) (args:=λv=>#[v,G J c]) hs c (0,0,0) (λB=>zM B c) λn B hu X aa g gd S j hL=>aDe hL c hc (hn n B hu)
 have HB:Hid (lQ O c=pQ O c (0,0,0) λB=>zM B c):=aY rfl;generalize lQ O c=R at *;rcases HV with ⟨d,hne,T,V,-⟩|⟨g,M,r,T,V,-,C2⟩
 .have HR:Hid (R=(O,(0,0,0),d)):=aY (HB.aX.trans V);have HK:=aY λt (j:K _ t)=>Q.aX _ _ (N.now j)
  rw[T]at A;go_in;go_wp2_with fail
  apply bW A.aX;intro t j;have y:=(HK.aX t j).1;have C:=aY ((HK.aX t j).2 (G J 0) (G E 0) (G E 0) rfl);have qr:=y.cell;have zr:=y.frozen;go_wp2;obtain⟨hF,e9⟩:=C.aX;refine aM (v:=au #[dD (0,0,0),G J d]) amJ rfl ?_;exact Lf
 obtain⟨z,ec⟩:=r;have HR:=aY (HB.aX.trans V);have Gn:=aY C2;rw[T]at A;go_in;go_wp2_with fail
 apply bW A.aX;intro t j;have C3:=aY (Gn.aX t j);go_wp2_with fail
 apply bW C3.aX;intro w3 Y;have y:=(Q.aX _ _ Y).1;have C:=aY ((Q.aX _ _ Y).2 (G J z.1) (G E z.2.1) (G E z.2.2) rfl);have qr:=y.cell;have zr:=y.frozen;go_wp2;obtain⟨hF,e9⟩:=C.aX;refine aM (v:=au #[dD z,G J ec]) amJ rfl ?_;exact Lf
theorem avx(h:cS H own O W eJ)(hs:oA O) c(hc:dA c)(n:Nat)(hn':n<18446744073709551616) f vf(hf:fZ f vf W)(hfit:∀t∈f,jN t)(dU:Z f<=1000000)(hn:∀n B,eK O n=I B->B.calls+1<4611686018427387904) :aK aR 23 #[aj (I ⟨H.gw,0,U⟩),G J c,G E n,vf] W λe w'=>e=ak (au #[dD (oC O c n f).2.1,G J (oC O c n f).2.2])/\eW H own (oC O c n f).1 W w':=by
 have gj:=bn.new W 42 #[G J 0,G E 0,G E 0];have Q:=h.EJ gj.cG;have C:=aY (Ng Q p2 pB hs c);have S:=aY λ(N:cT) (T:aP) (hN:eW H _ N _ T)=>aB (hN.keep (bP _) gj) (@eW.id3 W T H own N _ hN)
 have HV:=Q.via (ret:=λr=>au #[dD r.1,G J r.2]) (args:=λv=>#[v,G J c,G E n,vf]) hs c (0,0,0) (λB=>Cm B c n f) λm B hu X aa g gd T j hL=>aFo hL c hc (hn m B hu) n hn' f vf (fO f vf _ _ hf ((K.new W (aq #[G J 0,G E 0,G E 0] 42)).tr j)) hfit dU
 have HB:Hid (oC O c n f=pQ O c (0,0,0) λB=>Cm B c n f):=aY rfl;generalize oC O c n f=R at *;rcases HV with ⟨d,hne,V,Y,-⟩|⟨g,N,r,V,Y,-,C2⟩
 .have HR:Hid (R=(O,(0,0,0),d)):=aY (HB.aX.trans Y);have HK:=aY λy (j:K _ y)=>S.aX _ _ (Q.now j)
  rw[V]at C;go_in;go_wp2_with fail
  apply bW C.aX;intro y j;have z:=(HK.aX y j).1;have M:=aY ((HK.aX y j).2 (G J 0) (G E 0) (G E 0) rfl);have qr:=z.cell;have zr:=z.frozen;go_wp2;obtain⟨hF,e9⟩:=M.aX;refine aM (v:=au #[dD (0,0,0),G J d]) amK rfl ?_;exact Lf
 obtain⟨A,ec⟩:=r;have HR:=aY (HB.aX.trans Y);have Gn:=aY C2;rw[V]at C;go_in;go_wp2_with fail
 apply bW C.aX;intro y j;have C3:=aY (Gn.aX y j);go_wp2_with fail
 apply bW C3.aX;intro w3 xU;have z:=(S.aX _ _ xU).1;have M:=aY ((S.aX _ _ xU).2 (G J A.1) (G E A.2.1) (G E A.2.2) rfl);have qr:=z.cell;have zr:=z.frozen;go_wp2;obtain⟨hF,e9⟩:=M.aX;refine aM (v:=au #[dD A,G J ec]) amK rfl ?_;exact Lf
theorem atu(h:cS H own O W eJ)(hs:oA O) c(hc:dA c)(n:Nat)(hn':n<18446744073709551616)(hn:∀n B,eK O n=I B->B.calls+1<4611686018427387904) :aK aR 59 #[aj (I ⟨H.gw,0,U⟩),G J c,G E n] W λe w'=>e=ak (au #[dD (uE O c n).2.1,G J (uE O c n).2.2])/\eW H own (uE O c n).1 W w':=by
 have gj:=bn.new W 42 #[G J 0,G E 0,G E 0];have N:=h.EJ gj.cG;have A:=aY (Ng N p2 pB hs c);have Q:=aY λ(M:cT) (S:aP) (hN:eW H _ M _ S)=>aB (hN.keep (bP _) gj) (@eW.id3 W S H own M _ hN)
 have HV:=N.via (ret:=λr=>au #[dD r.1,G J r.2]) (args:=λv=>#[v,G J c,G E n]) hs c (0,0,0) (λB=>B7 B c n) λm B hu X aa g gd S j hL=>aDf hL c hc (hn m B hu) n hn'
 have HB:Hid (uE O c n=pQ O c (0,0,0) λB=>B7 B c n):=aY rfl;generalize uE O c n=R at *;rcases HV with ⟨d,hne,T,V,-⟩|⟨g,M,r,T,V,-,C2⟩
 .have HR:Hid (R=(O,(0,0,0),d)):=aY (HB.aX.trans V);have HK:=aY λt (j:K _ t)=>Q.aX _ _ (N.now j)
  rw[T]at A;go_in;go_wp2_with fail
  apply bW A.aX;intro t j;have y:=(HK.aX t j).1;have C:=aY ((HK.aX t j).2 (G J 0) (G E 0) (G E 0) rfl);have qr:=y.cell;have zr:=y.frozen;go_wp2;obtain⟨hF,e9⟩:=C.aX;refine aM (v:=au #[dD (0,0,0),G J d]) amL rfl ?_;exact Lf
 obtain⟨z,ec⟩:=r;have HR:=aY (HB.aX.trans V);have Gn:=aY C2;rw[T]at A;go_in;go_wp2_with fail
 apply bW A.aX;intro t j;have C3:=aY (Gn.aX t j);go_wp2_with fail
 apply bW C3.aX;intro w3 Y;have y:=(Q.aX _ _ Y).1;have C:=aY ((Q.aX _ _ Y).2 (G J z.1) (G E z.2.1) (G E z.2.2) rfl);have qr:=y.cell;have zr:=y.frozen;go_wp2;obtain⟨hF,e9⟩:=C.aX;refine aM (v:=au #[dD z,G J ec]) amL rfl ?_;exact Lf
end
theorem afR c:∀(l:List bU) (s:List nQ) (n:Nat),(∀x∈l,gu x)->Z (pN c l s n).1<=1000000/\∀e∈(pN c l s n).1,Z e<=1000000
 | [],_,_,_=>⟨by simp[pN],by simp[pN]⟩
 | x :: r,s,n,h=>by
  unfold pN;split;exact afR c r _ _ λy hy=>h y K6
  have t:=h x bu;have z:∀e∈rX s c x,e∈x.es:=λe j=>by unfold rX at j;split at j;exact (List.mem_filter.1 j).1;simp at j
  have A:Z (rX s c x)<=Z x.es:=by unfold rX;split;exact oo _ _;simp
  exact⟨cQ A t.2.1,λe j=>t.2.2 e (z e j)⟩
theorem afS{B}(t:dq B) c j:Z (sq B c j).1<=1000000/\∀e∈(sq B c j).1,Z e<=1000000:=by
 unfold sq;split;split;exact afR c _ _ _ λx y=>t.GL.1 x (List.mem_of_mem_drop y)
 simp;simp
theorem aDl:(prog.info? 43).map (λi=>(i.zero,i.size,i.bytes))=I (I (F U 0 0),1,24):=by kernel_rfl
theorem TEE:gQ aR 78 43 (F U 0 0) 1 24:=⟨underlying78,aDl,rfl,bG⟩
section
variable {S:Nat->Prop}{W W2:aP}{H:nY}{own:Nat->Nat}{O:cT}{par bj:List Int}{k:Nat}
theorem cS.aFt(h:cS H own O W eJ)(Q:oA O) c :(∃d:Int,(d != 0)=aA/\oD H O c=(aj U,d)/\jU O c=(O,[],d))\/∃(m:Nat) (B:cJ) (gd g n:Nat),c=(m:Int)/\m<Z O.bj/\eK O (n:Int)=I B/\oD H O c=(aj (I ⟨g,0,U⟩),0)/\(∀y,K W y->fB (λk=>own k≠0/\own k≠2*n+4) (λk=>own k≠2*n+4/\k<D (L y)) g gd B y) /\jU O c=(if (sq B c ((O.cur[m]?).getD 0)).2.2=0 then ({ O with cur:=O.cur.set m (sq B c ((O.cur[m]?).getD 0)).2.1,got:=if (sq B c ((O.cur[m]?).getD 0)).1=[]then O.got else O.got.modify m λg=>g++[(sq B c ((O.cur[m]?).getD 0)).1] },(sq B c ((O.cur[m]?).getD 0)).1,0)else (O,[],(sq B c ((O.cur[m]?).getD 0)).2.2)):=by
 rcases h.abU Q c with ⟨d,A,z,M,t⟩|⟨n,B,gd,g,A,z,M,t,j,N,C,P,R⟩
 .refine aI ⟨d,A,z,?_⟩;have j:=M (α:=List (List eD)) [] λB=>(B,[],0)
  unfold pQ at j;unfold jU;cases hc:oh O c;simp[hc]at j|-;exact j;cases hu:eK O (pP O c)with
  | none=>simp[hc,hu]at j|-;exact j
  | some B=>rw[hc,hu]at t;simp at t
 obtain⟨m,rfl,hm⟩:=agr C;refine aJ ⟨m,B,gd,g,n,rfl,hm,t,j,P,?_⟩;unfold jU;rw[bV C,N];simp only[t,Int.toNat_natCast]
theorem cS.aFu(h:cS H own O W S)(N:S 2){m}(hm:m<Z O.got):∃b y v,H.vg=F (I ⟨b,0,U⟩) (Z O.got) y/\own b=2/\H.vs[m]?=I v/\v.oneCell'=aA/\∀j,bf (λk=>own k≠2) W j->j.cell? ⟨b,0+m,U⟩=I v:=by
 obtain⟨a1,a2,a3,a4,B,⟨b1,b2,b3,C⟩,Q,a8⟩:=h.im N;obtain⟨b,y,e⟩:=B.UB (W:=W) aZ;have V:=C b E9;have M:m<Z H.vs:=aZ;have key:∀j,bf (λk=>own k≠2) W j->j.cell? ⟨b,0+m,U⟩=I H.vs[m]/\H.vs[m].oneCell'=true:=λj u=>by have X:=(B.to u (λ_ _=>trivial) (λk T e=>e (C k T)) (Y':=λ_=>True) λ_ _ _=>aI trivial).bD;obtain⟨A,c,z,Y,-⟩:=X;rw[e]at z;injection z with e1 e2 e3;subst e1;obtain⟨b',off,cs,t,-,hr,R,-⟩:=fE Y m M bG;injection t with t;injection t with t e5;subst t e5;obtain⟨rfl,h9⟩:=hr j (K.rf j);have:=R j (K.rf j);simp only[show BG.size=1 from rfl,Nat.mul_one]at this;exact⟨this,h9⟩
 exact⟨b,y,H.vs[m],by rw[e,Q],V,aE M,(key W (bf.rf _ _)).2,λj u=>(key j u).1⟩
def OvM(H:nY)(own:Nat->Nat)(z:cT)(w:aP)(j:Nat)(w':aP):Prop :=
 (D (L w))<=j/\j<=D (L w')/\∃y t,cS y t z w' eJ/\y.gw=H.gw/\bf (λk=>2<=own k) w w'/\∀k,k<j->t k=own k
theorem eW.m{H own j w w'}(h:eW H own j w w'):OvM H own j w (D (L w)) w':=by obtain⟨C,B,A,y,t,z⟩:=h;exact⟨bP _,t.size,C,B,A,y,t,z⟩
theorem aui(h:cS H own O W eJ)(hI:cU par bj O k)(hk:k<=40000) c :aK aR 28 #[aj (I ⟨H.gw,0,U⟩),G J c] W λe w'=>∃v mid,e=ak (au #[v,G J (jU O c).2.2])/\Fx (λk=>k<D (L W)\/mid<=k) (λW=>bD eB (jU O c).2.1 v W) w'/\OvM H own (jU O c).1 W mid w':=by
 have hs:=hI.iE;have C1:=aY (Ng h p2 pB hs c);rcases h.aFt hs c with ⟨d,hne,hv,hp⟩|⟨m,B,gd,g,n,rfl,hm,hu,hv,hL,hp⟩
 .have HR:=aY hp;have HK:=aY λM (y:K W M)=>h.now y
  rw[hv]at C1;generalize jU O c=R at *;clear h hI hp hv hs;go_in;go_wp2_with fail
  apply bW C1.aX;intro M y;have HF:=aY (HK.aX M y);clear C1 y HK;exact amM
 obtain⟨hG,Io,-⟩:=hI.up hu;have ja:=afS hG.todq (m:Int) ((O.cur[m]?).getD 0);have tI:=aY ja;have HP:=aY hp;rw[hv]at C1;have HH:=aY λM (y:K W M)=>h.st y
 have HLv:=aY hL;have Vh:=aY hI.gl;have hmc:m<Z O.cur:=aaG;have Q3:m<Z O.got:=by have:=hs.lg;omega
 have:(m:Int)<Z O.cur:=aZ;have HVB:Hid ((∀v,H.vs[m]?=I v->∀b,aW v=I b->b<D (L W))/\∀b,aW H.vg=I b->b<D (L W)):=aY ⟨λv hv b Q=>by
  obtain⟨v0,h1,h2,-⟩:=h.got m O.got[m] (show eJ (2*m+5) by unfold eJ;omega) (aE Q3);rw[hv]at h1;injection h1 with h1;subst h1;exact (h2.blk b Q).2,λb Q=>((h.im p2).got.blk b Q).2⟩
 obtain⟨bc,aKK,aKL,ec,oc,hbc,-⟩:=h.ao5 p2 hmc 0;have Eo:∀W',K W W'->W'.cell? ⟨bc,m,U⟩=I (G J ((O.cur[m]?).getD 0)):=by obtain⟨b9,o9,c9,j,h9⟩:=h.ao4 p2 hs hm;rw[ec]at j;injection j with j;injection j with j;injection j with e1 e2;subst e1 e2;exact λW' k=>by simpa using h9 W' k
 generalize jU O (m:Int)=R at *;generalize hx:(O.cur[m]?).getD 0=x at *;have q:=(h.im p2).blk.cells;rw[ec]at q;clear hI hp hv hs hG Io hu ja hL;go_in;go_wp2_with fail
 apply bW C1.aX;intro M y;have C3:=aY (aDZ (HLv.aX M y) (m:Int) x);clear C1 HLv;go_wp2_with fail
 refine C3.aX.mono ?_;rintro e z⟨v3,rfl,dS,k3⟩;obtain⟨A3,c3,rfl,-⟩:=dS.slice;generalize sq B (m:Int) x=r at *;obtain⟨t,Y,code⟩:=r;have kR:=y.tr k3;have h3:=HH.aX z kR;by_cases hc:code=0
 .subst hc;have HR:Hid (R=({ O with cur:=O.cur.set m Y,got:=if t=[]then O.got else O.got.modify m λg=>g++[t] },t,0)):=aY Z5;obtain⟨b9,aKM,aKN,j,ob9,cV,T⟩:=h3.ao5 p2 hmc Y;rw[ec]at j;injection j with j;injection j with j;injection j with j;subst j;have q3:=q z kR;have qc3:=Eo z kR;have z3:=cV.frozen;have H4:=aY T;have HO3:=aY dS;have dR:=cZ hbc.lt y.size;have u4:bf (λk=>k=bc) z (aV z ⟨bc,m,U⟩ (G J Y)):=bf.dx (X:=λk=>k=bc) rfl m _;have xT:=aY (show bf (λk=>2<=own k) W (aV z ⟨bc,m,U⟩ (G J Y))from (bf.cz kR _).tr (u4.more λk e=>by rw[e,oc];exact bP 2));have JR:=aY (dS.up (w':=z.setCell ⟨bc,m,U⟩ (G J Y)) (bP _) (cI.set dR m _));have Hu:=aY (show D (L W)<=D (L M)from y.size);clear C3 q Eo y k3 kR h3 T dS cV h hbc HH HP u4;go_upto_region 8 with fail;generalize z.setCell _ _=C at *;by_cases he:t=[]
  .subst he;have HF:=aY (show eW H own { O with cur:=O.cur.set m Y } W C from ⟨H,own,H4.aX,rfl,xT.aX,λ_ _=>rfl⟩);have h9:¬(0:Int)<0:=aZ;clear xT H4 q3 qc3 z3;go_wp2;go_ret2;exact⟨_,jB,_,by rw[HR.aX];exact λ_ _=>⟨_,_,rfl,YA _ _ _,fw _⟩,by rw[HR.aX];exact HF.aX.m⟩
  have:(0:Int)<(Z t:Int):=by have:=List.length_pos_iff.2 he;omega
  have T:=H4.aX;obtain⟨bg,aKO,v,eg,og,hvs,h1c,hcg⟩:=T.aFu p2 Q3;obtain⟨l,hl⟩:∃l,O.got[m]?=I l:=⟨_,aE Q3⟩;obtain⟨v',hv',hO,Wg⟩:=T.got m l (show eJ (2*m+5) by unfold eJ;omega) hl;rw[hvs]at hv';injection hv' with hv';subst hv';have:=cQ (Vh.aX l (List.mem_of_getElem? hl)) hk;have hrow:=hO.blk;have hq:∀W,o8 v C W->∀i,W.cell? ⟨H.gw,i,U⟩=#[H.vp,H.vh,H.vn,H.vd,.map (I H.gb),H.vc,H.vg][i]?:=λW u=>((T.im p2).blk.cF u λe=>by have:=Wg _ e;have:=(T.im p2).own.1;omega).cell
  have vB:∀W,o8 v C W->W.cell? ⟨bg,m,U⟩=I v:=λW u=>by simpa using hcg W (u.more λk e=>by have:=Wg k e;omega)
  rw[eg]at hq;have ao6:(m:Int)<Z O.got:=aZ;have V0:=aY λW (u:o8 v C W)=>atr t _ W ((JR.aX.up (bP _) (u.vu λk h1 h2 _ e=>amN)).bD) tI.aX.1 tI.aX.2
  clear q3 qc3 z3 T hcg HO3;go_wp2_with fail
  have qs:=aB hq (aB vB ao6);refine Gq 16 15 l v t 78 TEE [([],[]),([0],[(46,0)]),([1],[(47,1)]),([2],[(48,2)]),([],[]),([],[]),([5],[(51,5)]),([6],[(52,6)]),([7],[(53,7)]),([],[]),([8,9],[(54,8),(55,9)]),([10],[(56,10)]),([],[]),([12],[(58,12)]),([13],[(59,13)]),([11,14],[(57,11),(60,14)]),([0,1,2,3,4,5,6,7,8,9,10,11,12,13,14,15],[(49,3),(50,4)]),([0,1,2,3,4,5,6,7,8,9,10,11,12,13,14,15,16],[(62,16),(61,15)])] 64 hO (fw _) aZ ?_;iterate 13 refine bB.i ?_
  refine bB.c (λu W=>∃A c,u=F A (Z t) c/\Fx (λk=>k<D (L C)) (λW=>bD eB t u W) W) (λ_ _ _ ⟨A,c,e,h⟩ k=>⟨A,c,e,h.up (bf.gy (X:=λb=>aW v=I b) k λ_ h=>h) λb Q=>(hrow b Q).2⟩) (λW u=>(V0.aX W u).mono λe w5 ⟨v5,e1,h5,k5⟩=>⟨v5,e1,(by
   obtain⟨A,c,e5,-⟩:=h5.slice;exact⟨A,c,e5,h5.Qg λk hk=>cZ hk u.size⟩),k5⟩) ?_
  refine bB.GZ (S:=abf eB) (N:=λk=>own k≠0\/aW v=I k) (D (L C)) TEE t (λ_ h=>h.size) (λb Q=>⟨aJ Q,(hrow b Q).2⟩) (λV W hW hp=>?_) ?_;simp only[dN,bZ,cC,dK,dL,bS]at hp;obtain⟨⟨A,c,e,hF⟩,-⟩:=hp;show tD _ _ _ (V 13) _;refine⟨E9,λW' u=>⟨V 13,E9,hF W' (u.more λk hk=>hk.elim (H4.aX.lo k) λhk=>(hrow k hk).2)⟩⟩;refine bB.s ?_;clear qs;refine⟨λ_ _=>trivial,λV W hW hp=>?_,λV X9 hW cX sR hA=>?_⟩;exact K5;simp only[bZ,cC,dF,bS,Nat.reduceAdd]at hA;obtain⟨A9,c9,vG⟩:=cX.slice;obtain⟨b9,Dm,cr9,j,o9,cV,aFv,h5,pn⟩:=H4.aX.aFq p2 (show eJ (2*m+5) by unfold eJ;omega) hl hvs hW cX sR;rw[eg]at j;injection j with j;injection j with j;injection j with j;subst j;have hq9:=vB X9 hW;have vG:V 15=F A9 (Z l+1) c9:=by simpa using vG
  have hA:=aB hA vG;have qs:=aB hq9 (aB cV.frozen (aB Q3 ao6));refine bN.p ?_;refine bN.s ?_;refine bN.h ?_;rw[vG]at h5;have hsz:bg<D (L M):=by have:=HVB.aX.2 bg (by rw[eg];rfl);have:=Hu.aX;omega
  have u9:bf (λk=>aW v=I k\/k=bg) C (X9.setCell ⟨bg,m,U⟩ (F A9 (Z l+1) c9)):=(hW.more λk e=>aI e).tr ((bf.dx (X:=λk=>k=bg) rfl m _).more λk e=>aJ e);have HE:=aY ((JR.aX.wF.fx λ_ h=>h).to (N:=λk=>k<D (L W)\/D (L C)<=k) u9 (λk hk=>hk.elim (λe=>amN) λe=>aZ) λk h1 h2=>by have:=Hu.aX;omega);have eG:(if t=[]then O.got else O.got.modify m λg=>g++[t])=O.got.set m (l++[t]):=by
   rw[bQ he];refine List.ext_getElem? λi=>?_
   rw[List.getElem?_modify,List.getElem?_set];by_cases hi:m=i;subst hi;simp[Q3];exact (aF.1 hl).2;simp[hi]
  rw[eG]at HR;have HF:=aY (show OvM H own { O with cur:=O.cur.set m Y,got:=O.got.set m (l++[t]) } W (D (L C)) (X9.setCell ⟨bg,m,U⟩ (F A9 (Z l+1) c9))from ⟨xT.aX.size,u9.size,_,aFv,h5,rfl,(xT.aX.tr (hW.more λk e=>by have:=Wg k e;omega)).tr (bf.dx (X:=λk=>2<=own k) (by rw[og];exact bP 2) m _),pn⟩);clear u9 hA qs hq9 cV h5 pn cX sR hW hq vB hO Wg hrow vG V0 JR xT H4 HVB Vh hsz;generalize X9.setCell _ _=W9 at *;go_wp2;go_ret2;exact⟨_,jB,_,by rw[HR.aX];exact HE.aX,by rw[HR.aX];exact HF.aX⟩
 have hne:(code != 0)=true:=GH;have HR:Hid (R=(O,[],code)):=aY (by rw[HP.aX];exact bQ hc);have HF:=aY (show eW H own O W z from eW.k kR (h3.now (K.rf z)));clear C3 q Eo y k3 kR h3 dS h hbc HH HP;exact amM
theorem amO{w W' g s vl vp va cs}(hb:bn W' g 61 cs)(j:cs.size=4)(hg:D (L w)<=g)(k:K w W')(t:nC (λk=>k<D (L w)\/k=g) s vl vp va W') :
 (∀i,((((aV W' ⟨g,0,U⟩ (G E s.life)).setCell ⟨g,1,U⟩ vl).setCell ⟨g,2,U⟩ vp).setCell ⟨g,3,U⟩ va).cell? ⟨g,i,U⟩=#[G E s.life,vl,vp,va][i]?) /\
  nC (λk=>k<D (L w)) s vl vp va ((((aV W' ⟨g,0,U⟩ (G E s.life)).setCell ⟨g,1,U⟩ vl).setCell ⟨g,2,U⟩ vp).setCell ⟨g,3,U⟩ va)/\K w ((((aV W' ⟨g,0,U⟩ (G E s.life)).setCell ⟨g,1,U⟩ vl).setCell ⟨g,2,U⟩ vp).setCell ⟨g,3,U⟩ va) :=
 ⟨(DD (us:=[G E s.life,vl,vp,va]) hb (by rw[j];rfl)).cell,Fx.to t (bf.sets (X:=λk=>k=g) rfl [G E s.life,vl,vp,va] 0 W') (λ_ h=>aJ h) (λ_ _ h=>aI h),K.sets hg [G E s.life,vl,vp,va] 0 W' k⟩
theorem aAY{d s}(j:jr d s):vZ (d.ie.map dG)=(s,0):=by have:=ahP d.ie (λr t=>⟨(j.ie r t).1,(j.ie r t).2.1⟩) eZ s j.run;unfold vZ;grind
theorem ahn{d s}(hG:jr d s):∀b∈d.ie.map dG,jG b=true:=akq
theorem cS.stt(h:cS H own O W S)(h2:S 2)(A:∀n,S (2*n+4))(y:cU par bj O k) n(R:mi O n=aA) :(∃g gd X aa B,eK O n=I B/\eX H.bC n=I (aj (I ⟨g,0,U⟩))/\qI O n=B.st/\∀j,K W j->fB X aa g gd B j)\/∃i gd vh d s,n=((i:Nat):Int)/\eK O n=U/\H.ds[i]?=I gd/\eX H.bC n=U/\qI O n=s/\jr d s/\∀j,K W j->Mj gd vh d j:=by
 cases hu:eK O n with
 | some B => obtain⟨i,rfl,C,x,hx1,hx2⟩:=Fj hu;obtain⟨gd,g,z,P,N⟩:=h.up (A i) y.iE.ln hu;exact aI ⟨g,gd,_,_,B,rfl,P,by grind [qI],λj t=>N.st t⟩
 | none => obtain⟨i,rfl,C,d,s,T,V,-⟩:=y.down R hu;obtain⟨gd,z,-,Y⟩:=h.brk i _ (A i) T;obtain⟨Q,vh,M,-⟩:=Y rfl;exact aJ ⟨i,gd,vh,d,s,rfl,rfl,z,Q,by grind [qI,DQ],V,λj t=>M.st t⟩
theorem ae0(h:cS H own O W S)(y:S 2)(hS:∀n,S (2*n+4))(hI:cU par bj O k) n :aK aR 19 #[aj (I ⟨H.gw,0,U⟩),G J n] W λe z=>∃vl vp va,e=ak (av (eO (qI O n) vl vp va))/\nC (λk=>k<D (L W)) (qI O n) vl vp va z/\K W z:=by
 have A:=bn.new W 61 #[G E 0,F U 0 0,F U 0 0,F U 0 0];have k1:=A.cG;have C:=aY (Nw (h.st k1) y n);have q:=(h.im y).blk.cells;cases hi:mi O n
 .have HR:Hid (qI O n=eZ):=aY (by unfold qI;rw[hi];rfl);generalize qI O n=R at *;rw[hi]at C;have HF:=aY (show nC (λk=>k<D (L W)) eZ (F U 0 0) (F U 0 0) (F U 0 0) (aU W (aq #[G E 0,F U 0 0,F U 0 0,F U 0 0] 61))/\K W (aU W (aq #[G E 0,F U 0 0,F U 0 0,F U 0 0] 61))from
   ⟨λQ _=>⟨(bK.nil (λ_=>True) 0 128 cL Q).bD,(bK.nil (λ_=>True) 0 128 cL Q).bD,(bK.nil (λ_=>True) 0 42 dQ Q).bD⟩,k1⟩)
  have qr:=A.cell;have zr:=A.frozen;clear h hI hi y hS q k1;go_in;go_wp2_with fail
  apply bW C.aX;rintro z rfl;clear C A;go_wp2;refine aM (v:=av #[G E 0,F U 0 0,F U 0 0,F U 0 0]) (by simp[results,results19,go_sem,qr]) rfl ?_;exact⟨_,_,_,jB,by rw[HR.aX];exact HF.aX.1,HF.aX.2⟩
 rw[hi]at C;have ql:=h.q y;rcases h.stt y hS hI n hi with ⟨g,gd,X,aa,B,hu,Y,hst,hL⟩|⟨i,gd,vh,d,s,rfl,hu,hd,Y,hst,hG,hD⟩
 .have C3:=aY (aDg (hL _ k1));have M:=(ql _ k1 n).1;rw[Y]at M;simp only[Option.getD_some,Option.isSome_some]at M;have q1:=q _ k1;rw[hst];generalize B.st=R at *;have HQ:=aY λt (j:K (aU W (aq #[G E 0,F U 0 0,F U 0 0,F U 0 0] 61)) t) vl vp va (hF:nC _ R vl vp va t)=>amO (w:=W) (A.bM j) rfl (bP _) (k1.tr j) (Fx.less hF λk N=>(show k<D (L (aU W (aq #[G E 0,F U 0 0,F U 0 0,F U 0 0] 61))) by simp;omega))
  clear h hI hi y hS q k1 hL hu Y hst ql;go_in;go_wp2_with fail
  apply bW C.aX;rintro z rfl;go_wp2_with fail
  refine C3.aX.mono ?_;rintro e t⟨vl,vp,va,rfl,Ka,j⟩;have HP:=aY (HQ.aX t j vl vp va Ka);obtain⟨⟨A1,c1,rfl⟩,⟨A2,c2,rfl⟩,A3,c3,rfl⟩:=Ka.sl;have gX:=A.bM j;have qr:=gX.cell;have zr:=gX.frozen;clear C C3 HQ Ka j A gX M q1;go_wp2;obtain⟨e9,T,V⟩:=HP.aX;refine aM (v:=av #[G E R.life,F A1 (Z R.bq) c1,F A2 (Z R.bF) c2,F A3 (Z R.ab) c3]) amP rfl ?_;exact⟨_,_,_,rfl,T,V⟩
 have M:=(ql _ k1 (i:Int)).1;rw[Y]at M;simp only[Option.getD_none,Option.isSome_none]at M;obtain⟨b,off,c,BH,hnl,Gm⟩:=h.Lu hd;have QR:(i:Int)<Z H.ds:=aZ;rw[BH]at q;have q1:=q _ k1;rw[hst];have HD:=aY hD;have HDC:=aY λQ (k:K W Q)=>Gm Q (bf.cz k _)
 have HQ0:=aY q;have hfit:=hG.fit;have hroom:=hG.room;have dR:Z (ly d)=jM d.ie:=Rv d.ie;have hlen:Z (ly d)<=1048576:=aZ;have ao7:=aY hlen;have HG:=aY hG;have hN:∀w,aK aR 38 #[G J 1048576] w λe z=>e=ak (au #[aj (I ⟨D (L w),0,U⟩),G J 0])/\jl (D (L w)) (F U 0 0) [] 0 1048576 z/\K w z:=λw=>akb 1048576 w (bP _)
 have C2:=aY hN;have HR0:=aY A;clear h hI hi y hS q hu Y hst ql hd Gm BH hD hG hfit hroom dR hlen hN;go_in;go_wp2_with fail
 apply bW C.aX;rintro z rfl;go_wp2_with fail
 refine (C2.aX _).mono ?_;rintro e t⟨rfl,uA,j⟩;have kR:=k1.tr j;have q3:=HQ0.aX t kR;have aFw:=HDC.aX t kR;have C3:=aY (afs _ _ _ _ _ t (HD.aX t kR));have HDN:=aY uA;have H7:D (L (aU W (aq #[G E 0,F U 0 0,F U 0 0,F U 0 0] 61)))=D (L W)+1:=bu;generalize hgd:D (L (aU W (aq #[G E 0,F U 0 0,F U 0 0,F U 0 0] 61)))=gn at *;have JV:=aY kR;have Bs:=aY (HR0.aX.bM j);have HGN:=aY H7;clear C C2 M q1 uA j kR hgd H7;go_wp2_with fail
 refine C3.aX.mono ?_;rintro e w4⟨v4,rfl,iA,k4⟩;have hap:wJ [] (ly d) 1048576=(ly d,0):=by have:=ao7.aX;unfold wJ;rw[bV (by simpa using this)];rfl
 have hC4:=aeR gn (F U 0 0) v4 [] (ly d) 0 1048576 w4 (HDN.aX.st k4) (gS iA) (by have:=ao7.aX;omega);rw[hap]at hC4;have C4:=aY hC4;obtain⟨A4,c4,rfl,-⟩:=gS iA;have HK4:=aY (JV.aX.tr k4);have HR4:=aY (Bs.aX.bM k4);clear C3 iA hap hC4 k4 q3 aFw;go_wp2_with fail
 refine C4.aX.mono ?_;rintro e w5⟨vh5,rfl,Q4,Ih⟩;have hX5:∀k,nE gn vh5 k->D (L W)+1<=k:=λk N=>by have h1:=HGN.aX;have y:=HK4.aX.size;have h3:=HR4.aX.lt;rcases Ih.new k N with h|h;rcases h with h|h;omega;cases h;omega
 have C5:=aY (afv gn vh5 (d.ie.map dG) 1048576 w5 Q4 (ahn HG.aX));have u5:bf (λk=>D (L W)+1<=k) w4 w5:=Ih.up.more λk N=>by rcases N with h|h;have:=HGN.aX;omega;cases h
 have Qp:=aY (u5.k HK4.aX λk N=>aZ);have HR5:=aY (HR4.aX.cF u5 λh=>aZ);have Qq:=aY hX5;clear C4 Q4 Ih hX5 u5;go_wp2_with fail
 refine C5.aX.mono ?_;rintro e w6⟨gl,vr,rfl,jg,Uj,nW,-,u6⟩;have u6':=u6.more Qq.aX;have Lp:=HG.aX.cnt;have MT:∀b∈d.ie.map dG,Z b<=1000000000:=λb hb=>by have:=ahn HG.aX b hb;simp[jG]at this;omega
 have C6:=aY (aeM gl _ vr (d.ie.map dG) w6 Uj nW.bD bL MT);have HK6:=aY (u6'.k Qp.aX λk N=>aZ);have HR6:=aY (HR5.aX.cF u6' λh=>aZ);clear C5 Uj nW u6 u6' Lp MT Qq jg;go_wp2_with fail
 refine C6.aX.mono ?_;rintro e w7⟨v7,rfl,ke,k7⟩;have Wh:=HG.aX.abT v7 w7 ke.bD;rw[aAY HG.aX]at Wh;obtain⟨A7,c7,rfl⟩:=ke.slice;rw[List.length_map]at Wh;have C7:=aY Wh;have HK7:=aY (HK6.aX.tr k7);have HR7:=aY (HR6.aX.bM k7);clear C6 ke Wh k7;go_wp2_with fail
 refine C7.aX.mono ?_;rintro e w8⟨vl,vp,va,rfl,hF8,k8⟩;have fF:=(HR7.aX.bM k8).alloc (aq (eO s vl vp va) 61);have V:=(HK7.aX.tr k8).al (aq (eO s vl vp va) 61);have T:nC _ s vl vp va _:=Fx.k hF8 ((K.rf w8).al (aq (eO s vl vp va) 61));have Hj:=HR7.aX.lt;have HP:=aY (amO (w:=W) fF rfl (bP _) V (Fx.less T λk N=>(show k<D (L w7) by omega)));obtain⟨⟨A1,c1,rfl⟩,⟨A2,c2,rfl⟩,A3,c3,rfl⟩:=hF8.sl;have hn8:=bn.new w8 61 (eO s (F A1 (Z s.bq) c1) (F A2 (Z s.bF) c2) (F A3 (Z s.ab) c3));have qn:=hn8.cell;have qr:=fF.cell;have zr:=fF.frozen;clear C7 hF8 k8 fF V T Hj hn8;go_wp2;obtain⟨e9,T,V⟩:=HP.aX;refine aM (v:=av #[G E s.life,F A1 (Z s.bq) c1,F A2 (Z s.bF) c2,F A3 (Z s.ab) c3]) amP rfl ?_;exact⟨_,_,_,rfl,T,V⟩
theorem aCc{X M g gd B}(h:fB X M g gd B W) :aK aR 192 #[aj (I ⟨g,0,U⟩)] W λe t=>∃j,e=ak j/\bD fe B.bI j t/\K W t:=by obtain⟨H,p,A,z,-⟩:=h;obtain rfl:=kg z;exact (atW A H.todq).mono λe t ⟨j,y,C,k⟩=>⟨j,y,C.bD,k⟩
theorem aDm{X H g gd B}(h:fB X H g gd B W) :aK aR 193 #[aj (I ⟨g,0,U⟩)] W λe j=>∃A c,e=ak (F A (Z B.dy) c)/\K W j:=by obtain⟨C,p,y,t,-⟩:=h;obtain rfl:=kg t;exact (asK y C.todq).mono λe j ⟨N,M,z,k⟩=>by obtain⟨A,c,rfl⟩:=z.slice;grind
theorem ags a b c d W:(Instr.field 61 (av #[a,b,c,d]) 2).run aR W=.ok c W:=by rfl
theorem aw5(l:List eU)(j:Nat)(t:j<Z l):Z ((l.take (j+1)).filter (·.eC))=Z ((l.take j).filter (·.eC))+if l[j].eC then 1 else 0:=by rw[iY t,List.filter_append,fg,List.filter_cons];split <;> simp
theorem cU.bF(h:cU par bj O k) n:Z (qI O n).bF<=6:=by
 unfold qI;split
 .next hi =>
  cases hu:eK O n with
  | some B=>exact (h.up hu).2.1.inv.bF
  | none => obtain⟨i,rfl,-,d,s,y,t,-,-,j⟩:=h.down hi hu;grind [DQ]
 simp[eZ]
theorem auj(h:cS H own O W S)(M:S 2)(hS:∀n,S (2*n+4))(C:cU par bj O k) n :aK aR 125 #[aj (I ⟨H.gw,0,U⟩),G J n] W λe V=>e=ak (G J (Jb O n:Int))/\K W V:=by
 have C1:=aY (ae0 h M hS C n);have Q:=aY λA (k:K W A)=>RO (h.st k) M hS C.iE n
 have HB:Hid (Jb O n=Z (qI O n).bF+(match eK O n with|some B=>Z (B.bI.filter (·.eC))+Z B.dy|none=>0)):=aY rfl;have q:=(h.im M).blk.cells;have ql:=h.q M;have:=C.bF n;generalize Jb O n=R at *;generalize qI O n=s at *;cases hu:eK O n with
 | none =>
  have HR:Hid (R=Z s.bF):=aY (by rw[HB.aX,hu];rfl);rw[hu]at Q;go_in;go_wp2_with fail
  refine C1.aX.mono ?_;rintro e y⟨vl,vp,va,rfl,hF,k1⟩;obtain⟨-,⟨A2,c2,rfl⟩,-⟩:=hF.sl;have fp:=ags;have X:=aY (Q.aX y k1);go_wp2_with fail
  apply bW X.aX;rintro V rfl;exact pI
 | some B =>
  have HR:Hid (R=Z s.bF+(Z (B.bI.filter (·.eC))+Z B.dy)):=aY (by rw[HB.aX,hu]);obtain⟨i,rfl,hlt,x,hx1,hx2⟩:=Fj hu;obtain⟨gd,g,e1,e2,hL⟩:=h.up (hS i) C.iE.ln hu;have LO:=(C.up hu).1;have:=LO.Cq;have gT:=LO.tx.AA;have HL:=aY λA (k:K W A)=>hL.st k
  rw[hu]at Q;have Qf:=λA (k:K W A)=>(ql A k i).2
  rw[e2]at Qf;simp only[Option.getD_some]at Qf;go_in;go_wp2_with fail
  refine C1.aX.mono ?_;rintro e y⟨vl,vp,va,rfl,hF,k1⟩;obtain⟨-,⟨A2,c2,rfl⟩,-⟩:=hF.sl;have fp:=ags;have X:=aY (Q.aX y k1);have C3:=aY (aCc (HL.aX y k1));have:=q y k1;have:=Qf y k1;have HK1:=aY k1;go_wp2_with fail
  apply bW X.aX;rintro V rfl;go_wp2_with fail
  apply dP C3.aX;rintro v3 w3⟨dS,k3⟩;obtain⟨A3,c3,rfl,qT,-⟩:=dS;have UZ:=aY (HK1.aX.tr k3);have Ve:=aY qT;go_wp2_with fail
  go_loopw [5,28] (fun b iv Wj=>∃j:Nat,j<=Z B.bI/\iv=G J j/\b=G J ((Z s.bF+Z ((B.bI.take j).filter (·.eC)):Nat):Int)/\K w3 Wj) (fun _ iv _=>Z B.bI-(aO iv).toNat)
  case atStart=>exact⟨0,fw _,rfl,bu,K.rf w3⟩
  case round =>
   obtain⟨j,hj,rfl,rfl,kr⟩:=hrel;by_cases hlt':j<Z B.bI
   .have cE:(j:Int)<Z B.bI:=aZ;obtain⟨b1,off,cs0,rfl,-,hrl,N,d⟩:=fE Ve.aX j hlt' bG;have Y:=aw5 B.bI j hlt';have T:=aY Y;obtain⟨vf,ve,rfl,⟨Af,cf,rfl,-⟩,⟨Ae,ce,rfl,-⟩⟩:=hrl wr kr;have Lp:Z ((B.bI.take j).filter (·.eC))<=1000000:=cQ (oo _ _) (by rw[sc];omega);generalize B.bI[j]=t at *;have N:=N wr kr;have d:∀i,i<9->wr.cell? ⟨b1,off+j*9+i,U⟩=(jz t (F Af (Z t.e.f) cf) (F Ae (Z t.e.es) ce))[i]?:=λi hi=>(d wr kr i hi).trans aD
    have N:wr.cell? ⟨b1,off+j*9,U⟩=I (G J t.e.bA):=N;cases ha:t.eC
    .have T:=aY (show Z ((B.bI.take (j+1)).filter (·.eC))=Z ((B.bI.take j).filter (·.eC)) by rw[Y,ha];rfl);go_wp2;exact⟨⟨j+1,aZ,dh,by rw[T.aX],kr.al _⟩,OJ⟩
    have T:=aY (show Z ((B.bI.take (j+1)).filter (·.eC))=Z ((B.bI.take j).filter (·.eC))+1 by rw[Y,ha];rfl);go_wp2;exact⟨⟨j+1,aZ,dh,by rw[T.aX];go_num,kr.al _⟩,OJ⟩
   have cE:¬(j:Int)<Z B.bI:=aZ;obtain rfl:j=Z B.bI:=aZ;rw[pL]at *;have C4:=aY (aDm (HL.aX wr (UZ.aX.tr kr)));have Lp:Z (B.bI.filter (·.eC))<=1000000:=cQ (oo _ _) gT;have HKr:=aY (UZ.aX.tr kr);go_wp2_with fail
   refine C4.aX.mono ?_;rintro e w9⟨A9,c9,rfl,k9⟩;have k99:=HKr.aX.tr k9;go_wp2;go_ret;refine⟨?_,k99⟩;rw[HR.aX];exact congrArg (λz:Int=>ak (G J z)) aZ
end
theorem aDn{X y g gd B W}(h:fB X y g gd B W)(N:mV B)(R:Z B.cA<=800000) :aK aR 103 #[aj (I ⟨g,0,U⟩)] W λe j=>∃t,e=ak t/\fB X y g gd (iL B) j/\bf (λk=>¬y k) W j/\Fx X (λW=>bD Eb (xv (iL B)) t W) j:=by obtain⟨C,p,T,A,hz⟩:=h;obtain rfl:=kg A;refine (avp T C.todq N R).mono ?_;rintro e j⟨t,O,rfl,P,H,S,M,Q⟩;have z:=fB.n hz A C.work ⟨O,P,H,S,M⟩;exact⟨t,rfl,z.1,z.2,Q.less λ_ h=>aI (aI h)⟩
theorem ayZ{B}(j:dq B):Z (xv B)<=17:=by have:=ahf B;have:=XG B (si B);have:=KO B.par B.me;have:=(rr j.tr).2;unfold xv;grind [xv,si]
section
variable {S:Nat->Prop}{W W2:aP}{H:nY}{own:Nat->Nat}{O:cT}{par bj:List Int}{k:Nat}
theorem cS.take(h:cS H own O W eJ) a b:∃y,H.vn=aj (I ⟨y,0,U⟩)/\aK aR 105 #[aj (I ⟨y,0,U⟩),G J a,G J b] W λe j=>∃v t,e=ak (au #[v,G J t]) /\((t != 0)=aA/\nH O a b=(O,t)/\eW H own O W j\/∃m l,t=0/\nX O.dV (a,b)=I (m :: l)/\Z m<=1000000000/\sl m v j/\cS H own { O with dV:=jW O.dV (a,b) l } j eJ/\bf (λk=>own k=3) W j):=by obtain⟨y,hv,C⟩:=h.dV (show eJ 3 by grind [eJ]);refine⟨y,hv,(afP C).mono ?_⟩;rintro e j⟨v,t,rfl,u,⟨z,rfl,h2⟩|⟨z,rfl,h2⟩|⟨m,l,z,rfl,h2,B,A⟩⟩;exact amQ;exact amQ;exact⟨v,_,rfl,aJ ⟨m,l,rfl,z,B,A.now,h.Lt hv h2 u,u⟩⟩
theorem aeL(h:cS H own O W eJ)(hI:cU par bj O k)(hk:k<=40000) a b :aK aR 61 #[aj (I ⟨H.gw,0,U⟩),G J a,G J b] W λe w'=>e=ak (G J (nH O a b).2)/\eW H own (nH O a b).1 W w':=by
 obtain⟨gn,hv,hC⟩:=h.take a b;have C1:=aY hC;have q:=(h.im p2).blk.cell;rw[hv]at q;have V:=aY hI;have HR:Hid (nH O a b=nH O a b):=aY rfl;generalize hr:nH O a b=R at HR|-;have HE:=aY hr;go_in;go_wp2_with fail
 refine C1.aX.mono ?_;rintro e z⟨v,code,rfl,⟨hne,j,S⟩|⟨m,l,rfl,X,yL,hs,y,u1⟩⟩
 .have t:=aY (aB j S);go_wp2;go_ret;obtain⟨j,S⟩:=t.aX;rw[<- HE.aX,j];exact⟨rfl,S⟩
 have M:cU par bj { O with dV:=jW O.dV (a,b) l } k:=by have h0:=V.aX.few _ (zK X);simp only[gH]at h0;exact V.aX.dV (KX _ _ _) (KY V.aX.few aZ)
 have j:nH O a b=(match eK { O with dV:=jW O.dV (a,b) l } b with|none=>({ O with dV:=jW O.dV (a,b) l },210)|some B=>(oB { O with dV:=jW O.dV (a,b) l } b (jc B a m).1,(jc B a m).2)):=by unfold nH;rw[X];rfl
 rw[HE.aX]at j;have HU:=aY (show bf (λk=>2<=own k) W z from u1.more λk e=>aZ);generalize { O with dV:=jW O.dV (a,b) l }=P at *;have q:=(y.im p2).blk.cell;have C:=(y.q p2 z (K.rf z) b).1;obtain⟨A,c,rfl,-⟩:=id hs;cases hu:eK P b with
 | none => rw[y.down p2 pB M.iE.ln hu]at C;simp only[Option.getD_none,Option.isSome_none]at C;rw[hu]at j;have t:=aY (aB j (eW.tr HU.aX rfl (λ_ _=>rfl) (y.now (K.rf z))));go_wp2;go_ret;rw[t.aX.1];exact⟨rfl,t.aX.2⟩
 | some B =>
  obtain⟨n,rfl,hlt,x,hx1,hx2⟩:=Fj hu;obtain⟨gd,g,e1,e2,hL⟩:=y.up (pB n) M.iE.ln hu;obtain⟨hG,Y,-⟩:=M.up hu;have:=Y.cA;have C3:=aY (aCa hL Y.fit aZ a m _ hs yL);rw[e2]at C;simp only[Option.getD_some,Option.isSome_some]at C;rw[hu]at j;simp only at j;have HP:=aY λT (N:fB _ _ g gd (jc B a m).1 T) Q=>eW.tr HU.aX rfl (λ_ _=>rfl) (y.ao2 bL e1 e2 N Q)
  have HD:=aY j;generalize jc B a m=hb at *;go_wp2_with fail
  apply bW C3.aX;rintro T⟨N,Q⟩;have t:=aY (HP.aX T N Q);go_wp2;go_ret;rw[HD.aX];exact⟨rfl,t.aX⟩
def GW(O:cT)(n:Int)(l:List (Int×List UInt8)):cT:={ O with dV:=l.foldl (λaT m=>xw aT (n,m.1) m.2) O.dV }
theorem aw6 O n l x:GW O n (l++[x])={ GW O n l with dV:=xw (GW O n l).dV (n,x.1) x.2 }:=by grind [GW]
theorem afk(h:cS H own O W eJ)(S:cU par bj O k)(hk:k<=40000) n :aK aR 60 #[aj (I ⟨H.gw,0,U⟩),G J n] W λe w'=>e=ak (G J (oZ O n).2)/\eW H own (oZ O n).1 W w':=by
 have C1:=aY (Nw h p2 n);have HR:Hid (oZ O n=if mi O n then (match eK O n with|none=>(O,(210:Int))|some B=>(GW (oB O n (iL B)) n (xv (iL B)),0))else (O,1)):=aY rfl;have HN:=aY (h.now (K.rf W));generalize oZ O n=R at *;cases Q:mi O n;rw[Q]at C1 HR;have q:=(h.im p2).blk.cell;exact Tp;rw[Q]at C1 HR;have q:=(h.im p2).blk.cell;have M:=(h.q p2 W (K.rf W) n).1;cases hu:eK O n with
 | none => rw[h.down p2 pB S.iE.ln hu]at M;simp only[Option.getD_none,Option.isSome_none]at M;rw[hu]at HR;exact Tp
 | some B =>
  obtain⟨i,rfl,hlt,x,hx1,hx2⟩:=Fj hu;obtain⟨gd,g,e1,e2,hL⟩:=h.up (pB i) S.iE.ln hu;obtain⟨Y,Io,-⟩:=S.up hu;have gT:=Io.cA;have C3:=aY (aDn hL Io.fit aZ);have Hh:=ayZ (Nv Y.todq);have HS:=aY (avu (Nv Y.todq) (NF Y.todq Io.fit));rw[e2]at M;simp only[Option.getD_some,Option.isSome_some]at M;rw[hu]at HR;have HP:=aY λw2 (wL:fB _ _ g gd (iL B) w2) u2=>h.put (by have:=S.iE.ln;omega) e1 e2 wL u2
  have yU:=aY h.lo;simp only[if_true]at HR;generalize gG:oB O (i:Int) (iL B)=O1 at *;generalize xv (iL B)=outs at *;generalize iL B=WB at *;go_in;go_wp2_with fail
  apply bW C1.aX;rintro w' rfl;go_wp2_with fail
  refine C3.aX.mono ?_;rintro e t⟨v',rfl,hL1,y,hF⟩;have h1:=HP.aX t hL1 y;obtain⟨Ao,co,rfl⟩:=bH hF.now;have HX:=aY (show bf (λk=>2<=own k) w' t from ⟨y.os,y.tape,y.output,y.size,λk h1 h2=>y.block k h1 λhx=>h2 aZ⟩);have HOW:=aY (show (∀k,k<D (L w')->lh own (2*i+4) w' t k=own k)/\∀k,lh own (2*i+4) w' t k=3->own k=3 from ⟨λk hk=>I1,λk hk=>by
   unfold lh at hk;split at hk;split at hk <;> omega
   exact hk⟩)
  have HF:=aY hF;have HH1:=aY h1;have u10:=bf.rf (λk=>lh own (2*i+4) w' t k=3) t;have aFx:=aY u10;generalize lh own (2*i+4) w' t=C at *;go_wp2_with fail
  go_loopw [27] (fun jv Wj=>∃j:Nat,j<=Z outs/\jv=G J j/\Hid (cS H C (GW O1 i (outs.take j)) Wj eJ)/\Hid (bf (fun k=>C k=3) t Wj)) (fun jv _=>Z outs-(aO jv).toNat)
  case atStart=>exact⟨0,aZ,rfl,by simpa [GW]using HH1,aFx⟩
  case round =>
   obtain⟨j,hj,rfl,HJ,HU⟩:=hrel;by_cases hlt':j<Z outs
   .have cE:(j:Int)<Z outs:=aZ;have z:=HJ.aX;obtain⟨gn,hv,M0⟩:=z.dV (show eJ 3 by unfold eJ;decide);have qT:=(HF.aX.up HU.aX λk e=>by have:=HOW.aX.2 k e;constructor <;> omega).now;obtain⟨A9,c9,e9,aFy,-⟩:=qT;injection e9 with e9a e9b e9c;subst e9a e9c;obtain⟨b1,off,cs0,iV,-,hrl,d0,d⟩:=fE aFy j hlt' bG;subst iV;have ja:=HS.aX _ (dJ hlt');have LM:outs.take (j+1)=outs.take j++[outs[j]]:=bu;generalize outs[j]=x at *;obtain⟨N,bs⟩:=x;obtain⟨u,hcs,mF⟩:=hrl wr (K.rf wr);subst hcs;obtain⟨Au,T,rfl⟩:∃A c,u=F A (Z bs) c:=mF.imp λ_ h=>h.imp λ_ h=>h.1
    have HK:=aY LM;have HV:=aY hv;have q:=(z.im p2).blk.cells;rw[hv]at q;have gj:=bn.new wr 193 #[G J N,F Au (Z bs) T];have kA:=gj.cG;have kB:=λW (k:K (aU wr (aq #[G J N,F Au (Z bs) T] 193)) W)=>kA.tr k
    have qb:=gj.cells;have q2:=λW k=>q W (kB W k)
    have Hm:=aY (aB z mF);have d:∀i,i<2->wr.cell? ⟨b1,off+j*2+i,U⟩=#[G J N,F Au (Z bs) T][i]?:=λi Q=>(d wr (K.rf wr) i Q).trans aD
    have d0:wr.cell? ⟨b1,off+j*2,U⟩=I (G J N):=d0 wr (K.rf wr);have KA:=aY kA;go_wp2_with fail
    generalize wr.alloc _=w2 at *;have qs:=aB q2 qb;refine fD 9 ?_;iterate 9 refine bB.i ?_
    intro V W3 kW hA;simp only[bZ,cC,dF,bS,Nat.reduceAdd]at hA;refine bN.call _ _ rfl (by simp[bR,aC,cP,hA,aL,bT,go_sem];exact⟨rfl,rfl⟩) ?_;have k3:=KA.aX.tr kW;have X:=Hm.aX.1.st k3;obtain⟨gn',hv',xU⟩:=X.dV (show eJ 3 by unfold eJ;decide);have eg:gn'=gn:=by have:=hv'.symm.trans HV.aX;injection this with this;injection this with this;injection this
    subst eg;refine (avq xU X.lo bs _ (qK _ _ _ _ Hm.aX.2 k3) ja).mono ?_;rintro e w4⟨code,rfl,u4,Ie⟩;refine⟨_,rfl,bN.h ?_⟩;have h4:cS H C (GW O1 i (outs.take (j+1))) w4 eJ:=by rw[HK.aX,aw6];exact X.Lt hv' Ie u4
    have H4:=aY h4;have HU4:=aY ((HU.aX.tr (bf.cz k3 _)).tr u4);go_wp2;go_roundw
    case rel=>exact⟨j+1,aZ,dh,H4,HU4⟩
    case measure=>simp[aO];omega
   have cE:¬(j:Int)<Z outs:=aZ;obtain rfl:j=Z outs:=aZ;go_wp2;go_ret;have z:=HJ.aX;rw[pL]at z;refine⟨jB,?_⟩;rw[HR.aX];exact⟨H,C,z,rfl,HX.aX.ir HU.aX λk hk e=>by have:=HOW.aX.2 k e;omega,HOW.aX.1⟩
end
section
open Go Go.RowKit Go.Shelf
theorem asn{α:Type}{B:Fence}{n:Nat}{P:Program}{g:Operand}{M:Array Tmp}{assign body:Code}{Q:Exit->Act->aP->Prop}{a:Act}{w:aP}(hro:B.round=U)(h1:1<=n){gf:Nat}{lb:Array aQ}(hg:a.eval g=.func (.func gf) #[] lb)(hFg:B.fn gf)(eg:∀args w,(callFunc gf args).run P w=.ok (.enter gf args) w){encs:α->Array aQ}(hps:∀x,(encs x).size=M.size)(xs:List α)(y:List α->aP->Prop)(R:∀pre W o,y pre W->D (L w)+1<D (L W)->y pre (W.putObj (D (L w)+1) o))(h0:∀o,y [] ((aU w (.deferred (I []))).alloc o))(aFz:∀(l:Nat) (ae:List α->aP->Prop) (W:aP),(∀pre W,ae pre W->y pre W)->(∀pre x W,ae pre W->pre++[x] <+: xs->YieldAt B (n-1-1) P l (encs x) W λe W'=>e=ak (ar aA)/\ae (pre++[x]) W')->ae [] W ->CallsIn B (n-1) P gf (#[.func (.yield l) #[] #[]]++lb) W λe W'=>(∃v,e=ak v)/\ae xs W')(a₁:α->Act)(aCd:∀(l:Nat) (x:α) (W:aP) (K:Act->aP->Prop),K (a₁ x) W->assign.wpIn (B.inRound l) (n-1-1) P (Exit.then K (λ_ _ _=>False)) { tmps:=(M.zip (encs x)).foldl (λt (p,v)=>t.setIfInBounds p v) a.tmps,defers:=[] } W)(aD2:∀(l:Nat) (pre:List α) (x:α) (W:aP),y pre W->pre++[x] <+: xs->D (L w)+1<D (L W)->body.wpIn (B.inRound l) (n-1-1) P (λe _ W'=>e=.normal/\(∀k,k=D (L w)\/k=D (L w)+1->W'.heap[k]?=W.heap[k]?)/\y (pre++[x]) W') (a₁ x) W)(aD3:∀W,y xs W->W.heap[D (L w)]?=I (.deferred (I []))->Q .normal { a with defers:={ target:=.collected (D (L w)),args:=#[] } :: a.defers } W):(Code.rangeFunc g M assign body).wpIn B n P Q a w:=by
 refine wpIn_rangeFunc ?_;intro fn hfn;rw[hro];obtain⟨A,z⟩:∃A:LoopState->Loop,A=λst=>{ state:=st,pending:=U,fn:=fn,tmps:=a.tmps,params:=M,assign:=assign,body:=body,defers:=D (L w) }:=⟨_,rfl⟩
 have h0':=h0 (.loop (A .ready));obtain⟨j,H⟩:∃j,(aU w (.deferred (I []))).alloc (.loop (A .ready))=j:=⟨_,rfl⟩;rw[H]at h0';have hL1:j.heap[D (L w)+1]?=I (.loop (A .ready)):=by rw[<- H];have:=World.alloc_heap_new (aU w (.deferred (I []))) (.loop (A .ready));rwa [World.size_alloc]at this
 have hK1:j.heap[D (L w)]?=I (.deferred (I [])):=by rw[<- H];exact (Below.heap_alloc _ _ _ bu).trans (World.alloc_heap_new w _)
 refine⟨D (L w)+1,[{ target:=.collected (D (L w)),args:=#[] }],j,{ target:=.fn (.func gf) lb,args:=#[.func (.yield (D (L w)+1)) #[] #[]] },j,gf,#[.func (.yield (D (L w)+1)) #[] #[]]++lb,j,?_,?_,?_,?_,λ_=>h1,?_⟩
 .rw[<- H,z];exact run_enterLoop_outer _ _ _ _ _
 .simp only[resolve,hg];simp[go_sem]
 intro f' V;simp[Target.leads]at V;subst V;exact hFg
 .simp[invoke,go_sem,eg]
 refine (aFz (D (L w)+1) (λpre W=>y pre W/\W.heap[D (L w)+1]?=I (.loop (A .ready))/\W.heap[D (L w)]?=I (.deferred (I []))) j (λ_ _ h=>h.1) ?_ ⟨h0',hL1,hK1⟩).mono ?_
 .rintro pre x W ⟨S,C,O⟩ Az;have N:=(aG.1 C).1;have Y:=run_yield (P:=P) (args:=encs x) C (by rw[z];exact hps x);rw[z]at Y;refine⟨fn,_,assign,body,Y,roundIn_of_wpIn hfn (aCd _ x W _ ⟨_,run_beginRound C (by rw[z]),?_⟩)⟩;refine wpIn_mono (aD2 _ pre x _ (R _ _ _ S N) Az (by simpa [World.putObj]using N)) ?_;rintro e a3 W3⟨rfl,hs,Ip⟩;have T:=(hs _ (aJ rfl)).trans (World.putObj_heap_same (o:=.loop { A .ready with state:=.busy }) N);have lY:=(hs _ (aI rfl)).trans ((World.putObj_heap_other aZ).trans O);have X:=(aG.1 T).1;have hr:=run_endRound (P:=P) U T;rw[z]at hr;exact⟨_,_,hr,rfl,R _ _ _ Ip X,by rw[z];exact World.putObj_heap_same X,(World.putObj_heap_other aZ).trans lY⟩
 rintro e W2⟨⟨v,rfl⟩,S,C,O⟩;exact⟨U,_,by have:=run_endLoop (P:=P) C (by rw[z];simp);rw[z]at this;exact this,aD3 _ (R _ _ _ S (aG.1 C).1) ((World.putObj_heap_other aZ).trans O)⟩
attribute [local go_sem] Oper.semAt_some
def sW(n:Nat):List Int:=((List.range n).reverse++List.range n).map λ(k:Nat)=>(k:Int)
theorem RP n:Z (sW n)=n+n:=by simp[sW]
theorem avy{n j}(h:j<n):(sW n).take (n-j)=(sW n).take (n-(j+1))++[(j:Int)]:=by
 have t:n-(j+1)<Z (sW n):=by grind [RP]
 rw[show n-j=n-(j+1)+1 by omega,iY t];congr 1;simp only[sW,List.getElem_map,List.getElem_append,List.length_reverse,List.length_range,show n-(j+1)<n by omega,dite_true,List.getElem_reverse,List.getElem_range,List.cons.injEq,and_true];omega
theorem ay0{n j}(h:j<n):(sW n).take (n+(j+1))=(sW n).take (n+j)++[(j:Int)]:=by
 have t:n+j<Z (sW n):=by grind [RP]
 rw[show n+(j+1)=n+j+1 by omega,iY t];congr 1;simp[sW,List.getElem_append]
theorem aw7 l M gw n(hn:n<=1000)(t:List Int->aP->Prop)(C:∀pre W,t pre W->W.cell? ⟨M,0,U⟩=I (aj (I ⟨gw,0,U⟩))/\∃A c,W.cell? ⟨gw,0,U⟩=I (F A n c))(H:∀pre x W,t pre W->pre++[x] <+: sW n->YieldAt Fence.wide 4 aR l #[G J x] W λe W'=>e=ak (ar aA)/\t (pre++[x]) W') W(h0:t [] W) :CallsIn Fence.wide 5 aR 153 #[.func (.yield l) #[] #[],aj (I ⟨M,0,U⟩)] W λe W'=>(∃v,e=ak v)/\t (sW n) W':=by
 obtain⟨R,A,c,q2⟩:=C [] W h0;have:J.wrap ((n:Int)-1)=(n:Int)-1:=OB;refine callsIn_of_wp func153 rfl trivial ?_ rfl;simp only[ntmps153,List.size_toArray,gH,List.length_nil,Nat.reduceAdd,Nat.reduceSub,Array.replicate_succ,Array.replicate_zero,List.push_toArray,List.append_toArray,bZ,cC];gi_wp2;gi_loopw [3] (λi wr=>∃j:Nat,i=G J ((j:Int)-1)/\j<=n/\t ((sW n).take (n-j)) wr) (λi _=>(aO i+1).toNat)
 case atStart=>exact⟨n,rfl,bP n,NR⟩
 case round =>
  obtain⟨j,rfl,hj,y⟩:=hrel;cases j with
  | zero =>
   generalize wr=w1 at *;obtain⟨R,A2,c2,q2⟩:=C _ _ y;gi_wp2;gi_loopw [4,24] (λ_ i W2=>∃j:Nat,i=G J j/\j<=n/\t ((sW n).take (n+j)) W2) (λ_ i _=>n-(aO i).toNat)
   case atStart=>exact⟨0,rfl,fw n,y⟩
   case round =>
    obtain⟨j,rfl,hj,y⟩:=hrel;by_cases N:j<n
    .have V:(j:Int)<n:=aZ;have HS:=aY (ay0 N);obtain⟨Y,S,Q,O,X,B⟩:=H _ (j:Int) _ y amR;gi_wp2;refine B.mono ?_;rintro e T⟨rfl,z⟩;rw[<- HS.aX]at z;gi_wp2;refine⟨?_,OJ⟩;iterate 9 apply Exists.intro
     refine⟨⟨j+1,?_,aZ,z⟩,rfl⟩;go_num
    have V:¬(j:Int)<n:=aZ;obtain rfl:j=n:=aZ;rw[jq (by rw[RP];omega)]at y;gi_wp2;go_end0;exact⟨⟨_,rfl⟩,y⟩
  | succ j => have HS:=aY (avy (show j<n by omega));have:J.wrap ((j:Int)-1)=(j:Int)-1:=OB;rw[show ((j+1:Nat):Int)-1=(j:Int) by omega];obtain⟨Y,S,Q,O,X,B⟩:=H _ (j:Int) _ y amR;gi_wp2;refine B.mono ?_;rintro e T⟨rfl,z⟩;rw[<- HS.aX]at z;gi_wp2;refine⟨?_,by simp[aO]⟩;exact⟨j,rfl,aZ,z⟩
attribute [local go_sem] Oper.semAt_some
theorem atv gw W :aK aR 99 #[aj (I ⟨gw,0,U⟩)] W λe j=>e=ak (.func (.func 153) #[] #[aj (I ⟨D (L W),0,U⟩)])/\j=W.alloc (aq #[aj (I ⟨gw,0,U⟩)] 49):=DC
theorem aCe{j k l l'}(h:nX j k=I l):nX (jW j k l') k=I l':=by
 unfold nX jW at *;induction j with
 | nil=>simp at h
 | cons p j t => grind
theorem auk{O a b}(h:pR O a b≠0):pR (nH O a b).1 a b+1=pR O a b:=by
 unfold pR nH at *;cases e:nX O.dV (a,b)with
 | none=>rw[e]at h;simp at h
 | some l=>cases l with
  | nil=>rw[e]at h;simp at h
  | cons m l => have j:=aCe (l':=l) e;simp only;split;simp[j];show Z ((nX (jW O.dV (a,b) l) (a,b)).getD [])+1=_;simp[j]
section
variable {W:aP}{H:nY}{own:Nat->Nat}{O:cT}{par bj:List Int}{k:Nat}
def AE(O:cT)(pre:List Int):cT:=(pre.map Int.toNat).foldl xA O
theorem ay1 O pre x:AE O (pre++[x])=xA (AE O pre) x.toNat:=by simp[AE]
theorem aAZ O:AE O (sW (Z O.par))=zP O:=by unfold AE sW zP;rw[List.map_map];congr 1;rw[show Int.toNat ∘ (λ(k:Nat)=>(k:Int))=id from rfl,List.map_id]
def Jt(H:nY)(own:Nat->Nat)(O:cT)(par bj:List Int)(k:Nat)(j:aP)(pre:List Int)(W:aP):Prop:=∃y t,cS y t (AE O pre) W eJ/\y.gw=H.gw/\bf (λk=>2<=own k\/k=D (L j)\/k=D (L j)+1) j W/\(∀k,k<D (L j)->t k=own k)/\t (D (L j))=1/\t (D (L j)+1)=1/\cU par bj (AE O pre) (k+49*Z pre)
theorem aCf O n(h:(oZ O n).2≠0):(oZ O n).1=O:=by grind [oZ,mi,eK]
theorem Jt.next{j W1 W3 C y A pre}(W:C.gw=H.gw)(u:bf (λk=>2<=own k\/k=D (L j)\/k=D (L j)+1) j W1)(B:∀k,k<D (L j)->y k=own k)(V:y (D (L j))=1)(h6:y (D (L j)+1)=1)(Y:D (L j)+1<D (L W1))(X:eW C y A W1 W3)(e:AE O pre=A)(S:cU par bj A (k+49*Z pre)):(∀k,k=D (L j)\/k=D (L j)+1->W3.heap[k]?=W1.heap[k]?)/\Jt H own O par bj k j pre W3:=by subst e;obtain⟨Q,N,T,R,M,z⟩:=X;refine⟨λk t=>M.block k aZ bL,Q,N,T,R.trans W,u.ir M λk t e=>aI (B k t▸e),λk t=>(z k aZ).trans (B k t),(z _ aZ).trans V,(z _ aZ).trans h6,S⟩
def sE(T:cT)(j i:Nat):cT:=(List.range i).foldl (λO (t:Nat)=>if t=j then O else Fh j t (pR O j t) O) T
theorem ay2 T j i:sE T j (i+1)=if i=j then sE T j i else Fh j i (pR (sE T j i) j i) (sE T j i):=by simp[sE,List.range_succ]
theorem aA0{p:Nat->Prop} m(h:p m):∃m,p m/\∀j,p j->m<=j:=by
 induction m using Nat.strongRecOn with
 | _ m t => grind
noncomputable def OS (p:Nat->Prop):Nat:=Classical.epsilon λm=>p m/\∀j,p j->m<=j
theorem aho{p m}(h:p m):p (OS p)/\OS p<=m:=by have:=Classical.epsilon_spec (aA0 m h);exact⟨this.1,this.2 m h⟩
structure Ju(H':nY)(dw:Nat->Nat)(W1:aP)(par bj:List Int)(T:cT)(j i kk:Nat)(O':cT)(W:aP):Prop where
 ov:eW H' dw O' W1 W
 inv:∃m,cU par bj O' m/\m+pR O' j i<=kk+8*i+8
 end_:if i=j then O'=sE T j i else Fh j i (pR O' j i) O'=sE T j (i+1)
theorem atw(h:cS H own O W eJ)(hI:cU par bj O k)(hp:Z par<=6)(hk:k+588<=40000) :aK aR 57 #[aj (I ⟨H.gw,0,U⟩)] W λe w'=>e=ak (au #[])/\eW H own (zP O) W w':=by
 refine (callsIn_wide (n:=6)).1 ?_;refine callsIn_of_wp_marks func57 rfl trivial ?_ rfl;simp only[ntmps57,List.size_toArray,gH,List.length_nil,Nat.reduceAdd,Nat.reduceSub,Array.replicate_succ,Array.replicate_zero,List.push_toArray,List.append_toArray,bZ,cC];have cK:=(bn.new W 49 #[aj (I ⟨H.gw,0,U⟩)]);have q1:=cK.cell;gi_wp2_with fail
 refine⟨trivial,(callsIn_wide.2 (atv _ _)).mono ?_⟩;rintro e N⟨rfl,rfl⟩;gi_wp2_with fail
 have k2:=K.ou W (aq #[aj (I ⟨H.gw,0,U⟩)] 49) (aq #[aj (I ⟨H.gw,0,U⟩)] 49);have hx1:=cK.alloc (aq #[aj (I ⟨H.gw,0,U⟩)] 49);have hx2:=bn.new (aU W (aq #[aj (I ⟨H.gw,0,U⟩)] 49)) 49 #[aj (I ⟨H.gw,0,U⟩)];simp only[World.size_alloc]at hx2|-;have h2:=h.st k2;have hlo:∀k,D (L W)<=k->own k=0:=λk hk=>by have:=h.lo k;omega
 have hz2:D (L ((aU W (aq #[aj (I ⟨H.gw,0,U⟩)] 49)).alloc (aq #[aj (I ⟨H.gw,0,U⟩)] 49)))=D (L W)+2:=bu;generalize (aU W (aq #[aj (I ⟨H.gw,0,U⟩)] 49)).alloc (aq #[aj (I ⟨H.gw,0,U⟩)] 49)=N at *;have ep:=hI.wj;have J8:=aY λpre z (h:Jt H own O par bj k N pre z)=>by obtain⟨B,y,h1,M,u,-⟩:=h;exact hx1.cF u λe=>by have:=hlo (D (L W)) (bP _);omega
 have y9:=aY λpre z (h:Jt H own O par bj k N pre z)=>by obtain⟨B,y,h1,M,u,-⟩:=h;exact hx2.cF u λe=>by have:=hlo (D (L W)+1) (by omega);omega
 have HPR:=aY λpre z (h:Jt H own O par bj k N pre z)=>by obtain⟨B,y,h1,M,u,_,_,_,S⟩:=h;obtain⟨A,c,e,-⟩:=h1.fx.now.1;have q:=(h1.im p2).blk.cell 0;rw[M,e,S.wj,<- ep]at q;exact (show ∃A c,z.cell? ⟨H.gw,0,U⟩=I (F A (Z O.par) c)from ⟨A,c,q⟩)
 clear q1 cK;refine asn rfl aZ (gf:=153) (lb:=#[aj (I ⟨D (L W)+1,0,U⟩)]) rfl trivial (enters_of func153 gP rfl) (encs:=λx:Int=>#[G J x]) (λ_=>rfl) (sW (Z O.par)) (Jt H own O par bj k N) ?put ?start
  (λl ae z hJI hY hJ=>aw7 l (D (L W)+1) H.gw (Z O.par) (by rw[ep];omega) ae (λpre z h=>⟨(y9.aX pre z (hJI pre z h)).cell 0,HPR.aX pre z (hJI pre z h)⟩) hY z hJ)
  (λx=>{ tmps:=#[aj (I ⟨H.gw,0,U⟩),aj (I ⟨D (L W),0,U⟩),G J x,undef,aj (I ⟨H.gw,0,U⟩),ar az,aj (I ⟨H.gw,0,U⟩),.func (.func 153) #[] #[aj (I ⟨D (L W)+1,0,U⟩)],G J x,undef,undef,undef,undef,undef,undef,undef,undef,undef,undef,undef,undef,undef,undef,undef,undef,undef,undef,undef,undef,undef,undef,undef,undef,undef,undef,undef,undef,undef,undef],defers:=[] }) ?assign ?body ?done
 case put =>
  rintro pre z o⟨B,y,h1,M,u,h4,h5,h6,S⟩ hlt;have u9:bf (λk=>k=D (L N)+1) z (z.putObj (D (L N)+1) o):=bf.gy (grownBy_putObj' z _ o) λg e=>Tq
  exact⟨B,y,h1.to u9 (λk e=>by subst e;rw[h6];exact⟨by decide,by unfold eJ;decide⟩) (λ_ h=>h) (λ_ _=>rfl) (λk hk e=>aay),M,u.tr (u9.more λk e=>aJ (aJ e)),h4,h5,h6,S⟩
 case start => intro o;have k3:=K.ou N (.deferred (I [])) o;have hz:D (L ((aU N (.deferred (I []))).alloc o))=D (L N)+2:=bu;exact⟨H,_,h2.EJ k3,rfl,bf.cz k3 _,λk hk=>I1,by unfold lh;rw[bV (bP _),bV (by omega)],by unfold lh;rw[bV (by omega),bV (by omega)],hI⟩
 case assign => intro l x z K hK;gi_wp2;exact hK
 case body =>
  intro l pre x C hR Az hlt;dsimp only;obtain⟨j,rfl,hjn⟩:∃j:Nat,x=(j:Int)/\j<Z O.par:=by have:=Az.subset (show x∈pre++[x] by simp);unfold sW at this;obtain⟨j,h1,rfl⟩:=List.mem_map.1 this;exact⟨j,rfl,E4⟩
  have hpl:Z pre+1<=12:=by have:=Az.length_le;rw[RP,ep]at this;simp at this;omega
  have abV:=J8.aX pre C hR;have q:=abV.cell;obtain⟨B,y,h1,M,u,h4,h5,h6,S⟩:=hR;have R:AE O (pre++[(j:Int)])=xA (AE O pre) j:=ay1 O pre j;have hI9:=cU.turn S hp aZ j;have rT:=aY λP' W3 (hN:eW B y P' C W3) (e:xA (AE O pre) j=P')=>Jt.next (bj:=bj) (par:=par) (k:=k) M u h4 h5 h6 hlt hN (R.trans e) aCg
  generalize AE O pre=P at *;have C1:=aY (afk h1 S aZ j);rw[M]at C1;have hIT:=S.tick j;have HTN:=aY (aCf P j);have Wk:Hid (xA P j=if (oZ P j).2=0 then sE (oZ P j).1 j (Z O.par)else P):=aY (by unfold xA sE;rw[S.wj,ep]);gi_wp2_with fail
  refine⟨trivial,((callsIn_wide.2 C1.aX).inRound l).mono ?_⟩;rintro e W3⟨rfl,hN⟩;generalize oZ P j=T at *;obtain⟨T,code⟩:=T;by_cases hc:code=0
  .subst hc;have HT:Hid (xA P j=sE T j (Z O.par)):=aY (by rw[Wk.aX];exact bV rfl);have HN0:=aY (show eW B y T C W3 from hN);have JQ:=aY (show cU par bj T (k+49*Z pre+1)from hIT);have HQ:=aY λt Wr m (hN:eW B y t C Wr) (hI:cU par bj t m)=>show (∀i,Wr.cell? ⟨D (L W),i,U⟩=#[aj (I ⟨H.gw,0,U⟩)][i]?)/\(∃A c,Wr.cell? ⟨H.gw,0,U⟩=I (F A (Z O.par) c))/\∃H2 Y gn,cS H2 Y t Wr eJ/\H2.gw=H.gw/\bf (λk=>2<=y k) C Wr/\(∀k,k<D (L C)->Y k=y k)/\Wr.cell? ⟨H.gw,2,U⟩=I (aj (I ⟨gn,0,U⟩))/\pC (λk=>Y k≠0) (λk=>Y k=3) gn t.dV Wr from by obtain⟨H2,Y,V,g2,g3,g4⟩:=hN;obtain⟨A,c,e,-⟩:=V.fx.now.1;obtain⟨gn,hv,M0⟩:=V.dV (show eJ 3 by unfold eJ;decide);have q0:=(V.im p2).blk.cell 0;have q2:=(V.im p2).blk.cell 2;rw[g2,M,e,hI.wj,<- ep]at q0;rw[g2,M,hv]at q2;exact⟨(abV.cF g3 λe=>by have:=hlo (D (L W)) (bP _);have:=h4 (D (L W)) (by omega);omega).cell,⟨A,c,q0⟩,H2,Y,gn,V,g2.trans M,g3,g4,q2,M0⟩
   obtain⟨q3,⟨A3,c3,qp3⟩,-⟩:=HQ.aX _ _ _ HN0.aX JQ.aX;generalize hkk:k+49*Z pre+1=Q at *;have HKK:Hid (Q<=39952):=aY aZ;have HH3:=aY M;have HPL:Hid (Z O.par<=6):=aY (by rw[ep];exact hp);clear hN HTN Wk C1 hIT q h1 S u R hI9 h2 hx1 hx2 hI h ep hkk abV Az hpl hlt M h4 h5 h6;gi_wp2_with fail
   gi_loopw [3,18] (λ_ iv Wi=>∃i:Nat,i<=Z O.par/\iv=G J i/\Hid (eW B y (sE T j i) C Wi)/\Hid (cU par bj (sE T j i) (Q+8*i))) (λ_ iv _=>Z O.par-(aO iv).toNat)
   case atStart=>exact⟨0,fw _,rfl,HN0,JQ⟩
   case round =>
    clear HN0 JQ q3 qp3;obtain⟨i,hi,rfl,De,HI1⟩:=hrel;generalize wr=w5 at *;by_cases hlt:i<Z O.par
    .have xJ:(i:Int)<Z O.par:=aZ;gi_wp2_with fail
     have Kc:=aY (ay2 T j i);gi_loopw [] (λWi=>∃t,Hid (Ju B y C par bj T j i Q t Wi)) (λWi=>OS λm=>∃t,Ju B y C par bj T j i Q t Wi/\pR t j i=m)
     case atStart => refine⟨sE T j i,aY ⟨De.aX,⟨_,HI1.aX,by have:=HI1.aX.long j i;omega⟩,?_⟩⟩;split;rfl;next h9=>rw[Kc.aX,bQ h9]
     case round =>
      clear De HI1;obtain⟨O0,nV⟩:=hrel;obtain⟨t,X,hm⟩:=(aho (p:=λm=>∃t,Ju B y C par bj T j i Q t wr/\pR t j i=m) ⟨O0,nV.aX,rfl⟩).1;have HO:=aY X;have HM:=aY hm;obtain⟨m,Q5,hmm⟩:=X.inv;obtain⟨q3,⟨A4,c4,qp4⟩,H2,Y,gn,V,g2,g3,g4,qn,M0⟩:=HQ.aX _ _ _ X.ov Q5;have hb:=HPL.aX;by_cases hij:i=j
      .subst hij;have he:=X.end_;rw[bV rfl]at he;have HF:=aY (show eW B y (sE T i (i+1)) C wr by rw[Kc.aX,bV rfl,<- he];exact X.ov);have HI2:=aY (show cU par bj (sE T i (i+1)) (Q+8*(i+1)) by rw[Kc.aX,bV rfl,<- he];exact Q5.mono aZ);clear X hm Q5 hmm V g3 M0 he;gi_wp2;refine⟨trivial,?_⟩;gi_wp2;exact⟨⟨i+1,hjn,dh,HF,HI2⟩,OJ⟩
      have aKP:((i:Int) != (j:Int))=true:=cN;have C4:=aY (avr (a:=(j:Int)) (b:=(i:Int)) M0);have he:=X.end_;rw[bQ hij]at he;have HHE:=aY he;have V1:Hid (Z ((nX t.dV ((j:Int),(i:Int))).getD [])=pR t j i):=aY rfl;have C5:=aY (aeL V Q5 amS (j:Int) (i:Int));rw[g2]at C5;rw[V1.aX]at C4;obtain⟨aT,hL⟩:∃aT,aT=pR t j i:=⟨_,rfl⟩;rw[<- hL]at C4;have HL:=aY hL;have tE:=(V.im p2).blk;have HTR:=aY λO9 W9 (h9:eW H2 Y O9 wr W9)=>show eW B y O9 C W9 from eW.tr g3 (g2.trans HH3.aX.symm) g4 h9
      clear hm Q5 hmm V g3 g4 M0 he hL X;gi_wp2_with fail
      refine⟨trivial,((callsIn_wide.2 C4.aX).inRound l).mono ?_⟩;rintro e w'⟨rfl,rfl⟩;cases aT with
      | zero => have R:=HHE.aX;rw[<- HL.aX]at R;have HF:=aY (show eW B y (sE T j (i+1)) C w' from (show t=sE T j (i+1)from R)▸HO.aX.ov);have HI2:=aY (show cU par bj (sE T j (i+1)) (Q+8*(i+1))from (show t=sE T j (i+1)from R)▸HO.aX.inv.elim λm h=>h.1.mono aZ);clear R;gi_wp2;exact⟨⟨i+1,aZ,dh,HF,HI2⟩,OJ⟩
      | succ aT =>
       have hpos:(0:Int)<((aT+1:Nat):Int):=aZ;gi_wp2_with fail
       refine⟨trivial,((callsIn_wide.2 C5.aX).inRound l).mono ?_⟩;rintro e w6⟨rfl,hN6⟩;have VS:=auk (O:=t) (a:=(j:Int)) (b:=(i:Int)) (by rw[<- HL.aX];omega);have ao8:pR (nH t (j:Int) (i:Int)).1 j i=aT:=by have:=HL.aX;omega
       have hR6:Ju B y C par bj T j i Q (nH t (j:Int) (i:Int)).1 w6:=by obtain⟨m,pg,hm2⟩:=HO.aX.inv;refine⟨HTR.aX _ _ hN6,⟨m+1,pg.Fc amS j i,aZ⟩,?_⟩;have R:=HHE.aX;rw[<- HL.aX]at R;rw[bQ hij,ao8];exact R
       have HR6:=aY hR6;have MP:Hid ((OS λm=>∃t,Ju B y C par bj T j i Q t w6/\pR t j i=m)<OS λm=>∃t,Ju B y C par bj T j i Q t w'/\pR t j i=m):=aY (by
        rw[<- HM.aX];have:=(aho (p:=λm=>∃t,Ju B y C par bj T j i Q t w6/\pR t (j:Int) (i:Int)=m) ⟨_,hR6,rfl⟩).2;omega)
       clear hN6 VS ao8 hR6 C4 C5 HTR tE;gi_wp2;exact⟨⟨_,HR6⟩,MP.aX⟩
    have xJ:¬(i:Int)<Z O.par:=aZ;obtain rfl:i=Z O.par:=aZ;have HF:=aY (rT.aX _ _ De.aX HT.aX);exact amT
  have hne:(code != 0)=true:=GH;have HF:=aY (rT.aX T W3 hN (by rw[Wk.aX,bQ hc];exact (HTN.aX hc).symm));clear hN rT HTN Wk C1;exact amT
 case done =>
  rintro z⟨B,y,h1,M,u,h4,h5,h6,S⟩ hK;rw[aAZ]at h1;have u9:bf (λk=>k=D (L N)) z (z.putObj (D (L N)) (.deferred U)):=bf.gy (grownBy_putObj' z _ _) λg e=>Tq
  have HF:=aY (show eW H own (zP O) W (z.putObj (D (L N)) (.deferred U))from
   ⟨B,y,h1.to u9 (λk e=>by subst e;rw[h5];exact⟨by decide,by unfold eJ;decide⟩) (λ_ h=>h) (λ_ _=>rfl) (λk hk e=>aay),M,
    ((bf.cz k2 _).ir u λk hk e=>aZ).ir u9 λk hk e=>aZ,λk hk=>h4 k aZ⟩)
  gi_wp2;refine⟨bu,aI ⟨_,_,rfl,run_takeDeferred hK,?_⟩⟩;exact⟨_,results_none rfl _ _ _,rfl,HF.aX⟩
end
end
section
variable {W W2:aP}{H:nY}{own:Nat->Nat}{O:cT}
theorem cS.aFA{α fb}{args:aQ->Array aQ}{ret:α×Int->aQ}(h:cS H own O W eJ)(M:oA O) c a z f(N:∀m B,eK O m=I B->∀X aa g gd j,K W j->fB X aa g gd B j->aK aR fb (args (aj (I ⟨g,0,U⟩))) j λe w'=>e=ak (ret (f B).2)/\fB X aa g gd (f B).1 w'/\bf (λk=>¬aa k) j w') :(∃d:Int,(d != 0)=aA/\Ec H O c a=(aj U,d)/\vK O c a z f=(O,z,d))\/∃g t r,Ec H O c a=(aj (I ⟨g,0,U⟩),0)/\vK O c a z f=(t,r)/\∀j,K W j->aK aR fb (args (aj (I ⟨g,0,U⟩))) j λe w'=>e=ak (ret r)/\eW H own t W w':=by unfold Ec vK;rcases h.via M c z f N with ⟨d,P,y,C,A⟩|⟨g,t,r,y,C,A,Q⟩;all_goals grind
theorem WC(h:cS H own O W eJ)(Q:oA O) c a f(fb:Nat) cs(hf:∀args W,(callFunc fb args).run aR W=.ok (.enter fb args) W)(hc:∀m B,eK O m=I B->∀X aa g gd z,K W z->fB X aa g gd B z->aK aR fb (#[aj (I ⟨g,0,U⟩),dD a]++cs) z λe w'=>e=ak (G J (f B).2.2)/\fB X aa g gd (f B).1 w'/\bf (λk=>¬aa k) z w') :aK aR 112 #[aj (I ⟨H.gw,0,U⟩),G J c,dD a,.func (.func fb) #[] cs] W λe w'=>e=ak (G J (vK O c a () f).2.2)/\eW H own (vK O c a () f).1 W w':=by
 have N:=bn.new W 42 #[G J a.1,G E a.2.1,G E a.2.2];have M:=N.cG;have y:=aY (aeO (h.st M) p2 pB Q c a);have HV:=h.aFA (ret:=λr=>G J r.2) (args:=λv=>#[v,dD a]++cs) Q c a () f hc;generalize vK O c a () f=R at *;have T:=aY λj (t:K (aU W (aq #[G J a.1,G E a.2.1,G E a.2.2] 42)) j)=>(N.bM t).cell
 have Y:=aY λj (t:K W j)=>h.now t
 rcases HV with ⟨d,hne,C,rfl⟩|⟨g,O',⟨⟨⟩,ec⟩,C,rfl,S⟩
 .rw[C]at y;go_in;go_wp2_with fail
  apply eu y.aX M;intro j t A;have HF:=aY (Y.aX j A);exact OI
 have Gn:=aY S;rw[C]at y;go_in;go_wp2_with fail
 apply eu y.aX M;intro j t A;have C3:=aY (Gn.aX j A);have:=T.aX j t;go_wp2_with fail
 apply bW C3.aX;intro w3 V;have HF:=aY V;exact OI
theorem ass{X y g gd B}(h:fB X y g gd B W) a(M:ew a) j u C(hb:bn W C 35 #[u])(Q:iI j u W)(O:Z j<=1000000)(H:∀x∈j,nv x) :aK aR 113 #[aj (I ⟨g,0,U⟩),dD a,aj (I ⟨C,0,U⟩)] W λe z=>e=ak (G J (gg B (ij B.bI a j)).2)/\fB X y g gd (gg B (ij B.bI a j)).1 z/\bf (λk=>¬y k) W z:=by
 have A:=bn.new W 42 #[G J a.1,G E a.2.1,G E a.2.2];have t:=A.cG;have S:=aY (aAT (h.st t) a M j u (mq j u _ _ Q t) O H);have q:=A.cell;have:=(hb.bM t).cell;have T:=aY t;generalize gg B (ij B.bI a j)=R at *;go_in;go_wp2_with fail
 apply bW S.aX;rintro w2⟨V,N⟩;have HF:=aY (aB V ((bf.cz T.aX _).tr N));exact OI
theorem asB(h:cS H own O W eJ)(T:oA O) c a(N:ew a) j u(A:iI j u W)(Q:Z j<=1000000)(C:∀x∈j,nv x) :aK aR 66 #[aj (I ⟨H.gw,0,U⟩),G J c,dD a,u] W λe M=>e=ak (G J (eS O c a λl=>ij l a j).2.2)/\eW H own (eS O c a λl=>ij l a j).1 W M:=by obtain⟨t,y,rfl⟩:=tN A;have gj:=(bn.new W 42 #[G J a.1,G E a.2.1,G E a.2.2]).alloc (aq #[F t (Z j) y] 35);have S:=bn.new (aU W (aq #[G J a.1,G E a.2.1,G E a.2.2] 42)) 35 #[F t (Z j) y];have kA:=K.ou W (aq #[G J a.1,G E a.2.1,G E a.2.2] 42) (aq #[F t (Z j) y] 35);have C1:=aY (WC (h.st kA) T c a (λB=>((gg B (ij B.bI a j)).1,(),(gg B (ij B.bI a j)).2)) 113 #[aj (I ⟨D (L W)+1,0,U⟩)] (λ_ _=>rfl) λm B Y X aa g gd W2 z V=>ass V a N j _ _ (by simpa using S.bM z) (mq j _ _ _ A (kA.tr z)) Q C);have HR:Hid (eS O c a (λl=>ij l a j)=vK O c a () λB=>((gg B (ij B.bI a j)).1,(),(gg B (ij B.bI a j)).2)):=aY rfl;generalize eS O c a (λl=>ij l a j)=R at *;exact aaH
theorem asU(h:cS H own O W eJ)(y:oA O) c a(t:ew a) :aK aR 67 #[aj (I ⟨H.gw,0,U⟩),G J c,dD a] W λe j=>e=ak (G J (eS O c a λl=>iK l a).2.2)/\eW H own (eS O c a λl=>iK l a).1 W j:=by have gj:=bn.new W 42 #[G J a.1,G E a.2.1,G E a.2.2];have kA:=gj.cG;have C1:=aY (WC (h.st kA) y c a (λB=>((gg B (iK B.bI a)).1,(),(gg B (iK B.bI a)).2)) 115 #[] (λ_ _=>rfl) λm B C X aa g gd M A z=>aB8 z a t);have HR:Hid (eS O c a (λl=>iK l a)=vK O c a () λB=>((gg B (iK B.bI a)).1,(),(gg B (iK B.bI a)).2)):=aY rfl;generalize eS O c a (λl=>iK l a)=R at *;exact aaH
theorem atx(h:cS H own O W eJ)(y:oA O) c a(t:ew a) :aK aR 68 #[aj (I ⟨H.gw,0,U⟩),G J c,dD a] W λe j=>e=ak (G J (eS O c a λl=>jD l a).2.2)/\eW H own (eS O c a λl=>jD l a).1 W j:=by have gj:=bn.new W 42 #[G J a.1,G E a.2.1,G E a.2.2];have kA:=gj.cG;have C1:=aY (WC (h.st kA) y c a (λB=>((gg B (jD B.bI a)).1,(),(gg B (jD B.bI a)).2)) 116 #[] (λ_ _=>rfl) λm B C X aa g gd M A z=>aDh z a t);have HR:Hid (eS O c a (λl=>jD l a)=vK O c a () λB=>((gg B (jD B.bI a)).1,(),(gg B (jD B.bI a)).2)):=aY rfl;generalize eS O c a (λl=>jD l a)=R at *;exact aaH
theorem asV(h:cS H own O W eJ)(Q:oA O) c a :aK aR 21 #[aj (I ⟨H.gw,0,U⟩),G J c,dD a] W λe V=>e=ak (au #[G J (yj O c a).1,G J (yj O c a).2])/\K W V:=by
 have N:=bn.new W 42 #[G J a.1,G E a.2.1,G E a.2.2];have M:=N.cG;have z:=aY (aeO (h.st M) p2 pB Q c a);have HR:Hid (yj O c a=(vK O c a (0:Int) λB=>(B,GG B a,0)).2):=aY rfl;generalize yj O c a=R at *;have HV:(∃d:Int,(d != 0)=aA/\Ec H O c a=(aj U,d)/\R=(0,d))\/∃g B,Ec H O c a=(aj (I ⟨g,0,U⟩),0)/\R=(GG B a,0)/\∀A,K W A->∃X S gd,fB X S g gd B A:=by
  rw[HR.aX];unfold Ec vK;rcases h.abU Q c with ⟨d,T,C,hcall,hu⟩|⟨n,B,gd,g,h1,h2,h3,h4,h5,h6,h7,h8,h9⟩
  .grind
  rw[h7,h6,h4,h5,h9];by_cases e:a.1=(n:Int);exact aJ ⟨g,B,IW,IW,λA j=>⟨_,_,gd,h8 A j⟩⟩;simp_all
 rcases HV with ⟨d,T,C,rfl⟩|⟨g,B,C,rfl,hL⟩
 .rw[C]at z;go_in;go_wp2_with fail
  apply eu z.aX M;intro t j y;go_wp2;go_ret2;exact⟨rfl,y⟩
 rw[C]at z;have HL:=aY hL;have Y:=aY λt (j:K (aU W (aq #[G J a.1,G E a.2.1,G E a.2.2] 42)) t)=>(N.bM j).cell
 go_in;go_wp2_with fail
 apply eu z.aX M;intro t j y;obtain⟨X,S,gd,wL⟩:=HL.aX t y;have C3:=aY (aB9 wL a);have:=Y.aX t j;go_wp2_with fail
 apply eu C3.aX y;intro w3 k3 kF;go_wp2;go_ret2;exact⟨rfl,kF⟩
end
def dY(C:Nat->Prop)(par bj:List Int)(gw:Nat)(O:cT)(k:Nat)(j:Nat->Prop)(W:aP):Prop :=
 cU par bj O k/\∃H own,H.gw=gw/\cS H own O W eJ/\(∀b,j b->b<D (L W)/\own b=0)/\∀b,C b->b<D (L W)/\own b=1
def mL(C:Nat->Prop)(par bj:List Int)(gw:Nat)(O:cT)(k:Nat)(j:Nat->Prop)(W W':aP):Prop:=dY C par bj gw O k j W'/\bf (λb=>¬j b/\¬C b) W W'
section
variable {C C':Nat->Prop}{par bj:List Int}{gw k:Nat}{O O':cT}{aa Z':Nat->Prop}{W W':aP}
theorem dY.lt(h:dY C par bj gw O k aa W):∀b,aa b\/C b->b<D (L W):=λb j=>by obtain⟨-,_,_,-,-,hz,t⟩:=h;exact j.elim (λj=>(hz b j).1) λj=>(t b j).1
theorem dY.apart(h:dY C par bj gw O k aa W):∀b,aa b->¬C b:=λb y t=>by obtain⟨-,_,_,-,-,hz,j⟩:=h;have:=(hz b y).2;have:=(j b t).2;omega
theorem dY.to(h:dY C par bj gw O k aa W)(u:bf C W W')(Q:∀b,Z' b->aa b\/D (L W)<=b/\b<D (L W'))(N:∀b,C' b->C b\/D (L W)<=b/\b<D (L W'))(M:∀b,D (L W)<=b->Z' b->¬C' b):dY C' par bj gw O k Z' W':=by
 classical
 obtain⟨z,H,own,e,A,hz,B⟩:=h;have R:=u.size;obtain⟨t,y⟩:∃t:Nat->Nat,t=λb=>if b<D (L W)then own b else if C' b then 1 else 0:=⟨_,rfl⟩
 refine⟨z,H,t,e,A.to u (λb j=>?_) (λ_ h=>h) (λb j=>by rw[y];simp[j]) (λb j S=>?_),λb j=>?_,λb j=>?_⟩;have:=(B b j).2;exact⟨aZ,by rw[this];unfold eJ;omega⟩;all_goals grind [eJ]
theorem dY.st(h:dY C par bj gw O k aa W)(u:K W W'):dY C par bj gw O k aa W':=h.to (bf.cz u _) (λ_ h=>aI h) (λ_ h=>aI h) λb j hz=>absurd (h.lt b (aI hz)) (by omega)
theorem dY.more(h:dY C par bj gw O k aa W)(u:K W W')(j:∀b,Z' b->aa b\/D (L W)<=b/\b<D (L W')):dY C par bj gw O k Z' W':=h.to (bf.cz u _) j (λ_ h=>aI h) λb y _ t=>absurd (h.lt b (aJ t)) (by omega)
theorem dY.go(h:dY C par bj gw O k aa W){fb}{args:aQ->Array aQ}{R:Ending->aP->Prop}{j}(X:∀H own,cS H own O W eJ->aK aR fb (args (aj (I ⟨H.gw,0,U⟩))) W λe w'=>R e w'/\eW H own O' W w')(B:cU par bj O' j) :aK aR fb (args (aj (I ⟨gw,0,U⟩))) W λe w'=>R e w'/\mL C par bj gw O' j aa W w':=by obtain⟨-,H,own,rfl,V,hz,y⟩:=h;refine (X H own V).mono ?_;rintro e w'⟨N,T,S,Q,M,A,z⟩;have:=A.size;exact⟨N,⟨B,T,S,M,Q,λb t=>⟨bL,(z b (hz b t).1).trans (hz b t).2⟩,λb t=>⟨bL,(z b (y b t).1).trans (y b t).2⟩⟩,A.more λb t=>⟨λhz'=>bL,λY=>bL⟩⟩
theorem dY.begin(h:dY C par bj gw O k aa W)(hk:k<=40000){c}(j:dA c) :
 aK aR 58 #[aj (I ⟨gw,0,U⟩),G J c] W λe t=>e=ak (au #[dD (lQ O c).2.1,G J (lQ O c).2.2])/\mL C par bj gw (lQ O c).1 (k+1) aa W t :=
 h.go (args:=λp=>#[p,G J c]) (λH own y=>att y h.1.iE c j λn B hu=>aaI) (h.1.begin aZ j)
theorem dY.sub(h:dY C par bj gw O k aa W)(hk:k<=40000){c}(j:dA c){n:Nat}(hn:n<18446744073709551616){f vf}(y:fZ f vf W)(hfit:∀t∈f,jN t)(z:Z f<=1000000) :
 aK aR 23 #[aj (I ⟨gw,0,U⟩),G J c,G E n,vf] W λe A=>e=ak (au #[dD (oC O c n f).2.1,G J (oC O c n f).2.2])/\mL C par bj gw (oC O c n f).1 (k+1) aa W A :=
 h.go (args:=λp=>#[p,G J c,G E n,vf]) (λH own M=>avx M h.1.iE c j n hn f vf y hfit z λn B hu=>aaI) (h.1.sub aZ j hn hfit)
theorem dY.O4(h:dY C par bj gw O k aa W)(hk:k<=40000){c}(j:dA c){n:Nat}(hn:n<18446744073709551616) :
 aK aR 59 #[aj (I ⟨gw,0,U⟩),G J c,G E n] W λe t=>e=ak (au #[dD (uE O c n).2.1,G J (uE O c n).2.2])/\mL C par bj gw (uE O c n).1 (k+1) aa W t :=
 h.go (args:=λp=>#[p,G J c,G E n]) (λH own y=>atu y h.1.iE c j n hn λn B hu=>aaI) (h.1.O4 aZ j hn)
theorem dY.Fb(h:dY C par bj gw O k aa W) c{a}(y:ew a){j u}(M:iI j u W)(A:Z j<=1000000)(t:∀x∈j,nv x) :
 aK aR 66 #[aj (I ⟨gw,0,U⟩),G J c,dD a,u] W λe z=>e=ak (G J (eS O c a λl=>ij l a j).2.2)/\mL C par bj gw (eS O c a λl=>ij l a j).1 (k+1) aa W z :=
 h.go (args:=λp=>#[p,G J c,dD a,u]) (λH own N=>asB N h.1.iE c a y j u M A t) (h.1.keep c a _ λB P=>P.Fb t y)
theorem dY.Fi(h:dY C par bj gw O k aa W) c{a}(j:ew a) :
 aK aR 67 #[aj (I ⟨gw,0,U⟩),G J c,dD a] W λe t=>e=ak (G J (eS O c a λl=>iK l a).2.2)/\mL C par bj gw (eS O c a λl=>iK l a).1 (k+1) aa W t :=
 h.go (args:=λp=>#[p,G J c,dD a]) (λH own y=>asU y h.1.iE c a j) (h.1.keep c a _ λB z=>z.Fi j)
theorem dY.abort(h:dY C par bj gw O k aa W) c{a}(j:ew a) :
 aK aR 68 #[aj (I ⟨gw,0,U⟩),G J c,dD a] W λe t=>e=ak (G J (eS O c a λl=>jD l a).2.2)/\mL C par bj gw (eS O c a λl=>jD l a).1 (k+1) aa W t :=
 h.go (args:=λp=>#[p,G J c,dD a]) (λH own y=>atx y h.1.iE c a j) (h.1.keep c a _ λB z=>z.abort j)
theorem dY.round(h:dY C par bj gw O k aa W)(j:Z par<=6)(hk:k+588<=40000) :
 aK aR 57 #[aj (I ⟨gw,0,U⟩)] W λe t=>e=ak (au #[])/\mL C par bj gw (zP O) (k+588) aa W t :=
 h.go (args:=λp=>#[p]) (λH own y=>atw y h.1 j hk) (h.1.round j aZ)
theorem dY.tick(h:dY C par bj gw O k aa W)(hk:k<=40000) n :
 aK aR 60 #[aj (I ⟨gw,0,U⟩),G J n] W λe j=>e=ak (G J (oZ O n).2)/\mL C par bj gw (oZ O n).1 (k+1) aa W j :=
 h.go (args:=λp=>#[p,G J n]) (λH own t=>afk t h.1 hk n) (h.1.tick n)
theorem dY.Fc(h:dY C par bj gw O k aa W)(hk:k<=40000) a b :
 aK aR 61 #[aj (I ⟨gw,0,U⟩),G J a,G J b] W λe j=>e=ak (G J (nH O a b).2)/\mL C par bj gw (nH O a b).1 (k+1) aa W j :=
 h.go (args:=λp=>#[p,G J a,G J b]) (λH own t=>aeL t h.1 hk a b) (h.1.Fc aZ a b)
theorem dY.Ln(h:dY C par bj gw O k aa W) n keep(hk:dA keep) :
 aK aR 65 #[aj (I ⟨gw,0,U⟩),G J n,G J keep] W λe j=>e=ak (G J (xi O n).2)/\mL C par bj gw (xi O n).1 k aa W j :=
 h.go (args:=λp=>#[p,G J n,G J keep]) (λH own t=>atq t h.1 n keep hk) (h.1.Ln n)
theorem dY.OH(h:dY C par bj gw O k aa W)(hk:k<=40000) n :
 aK aR 56 #[aj (I ⟨gw,0,U⟩),G J n] W λe j=>e=ak (G J (xb O n).2)/\mL C par bj gw (xb O n).1 (k+1) aa W j :=
 h.go (args:=λp=>#[p,G J n]) (λH own t=>asA t h.1 hk n) (h.1.OH n aZ)
theorem dY.anZ(h:dY C par bj gw O k aa W)(hk:k<=40000) c :aK aR 28 #[aj (I ⟨gw,0,U⟩),G J c] W λe t=>∃v j,e=ak (au #[v,G J (jU O c).2.2])/\D (L W)<=j/\j<=D (L t)/\Fx (λk=>k<D (L W)\/j<=k) (λW=>bD eB (jU O c).2.1 v W) t /\dY C par bj gw (jU O c).1 (k+1) (λb=>aa b\/D (L W)<=b/\b<j) t/\bf (λb=>¬aa b/\¬C b) W t:=by obtain⟨A,H,own,rfl,z,hz,X⟩:=h;refine (aui z A hk c).mono ?_;rintro e t⟨v,j,rfl,S,M,Q,V,R,N,B,T,h4⟩;have:=z.lo;exact⟨v,j,rfl,M,Q,S,⟨A.Pz c,V,R,B,N,λb y=>bL,λb y=>bL⟩,T.more λb y=>⟨λhz'=>bL,λY=>bL⟩⟩
theorem dY.Pz(h:dY C par bj gw O k aa W)(hk:k<=40000) c :aK aR 28 #[aj (I ⟨gw,0,U⟩),G J c] W λe j=>(∃v,e=ak (au #[v,G J (jU O c).2.2])/\bD eB (jU O c).2.1 v j)/\mL C par bj gw (jU O c).1 (k+1) aa W j:=by refine (h.anZ hk c).mono ?_;rintro e j⟨v,z,rfl,B,A,y,t,u⟩;exact⟨⟨v,rfl,y.now⟩,t.to (bf.rf _ _) (λ_ h=>aI (aI h)) (λ_ h=>aI h) λb H hz=>absurd (t.lt b (aI (aI hz))) aZ,u⟩
theorem dY.status(h:dY C par bj gw O k aa W) c a :aK aR 21 #[aj (I ⟨gw,0,U⟩),G J c,dD a] W λe j=>e=ak (au #[G J (yj O c a).1,G J (yj O c a).2])/\K W j:=by obtain⟨t,H,own,rfl,y,-⟩:=h;exact asV y t.iE c a
theorem dY.aDo(h:dY C par bj gw O k aa W) c :aK aR 31 #[aj (I ⟨gw,0,U⟩),G J c] W λe j=>e=ak (G J (I2 O c))/\j=W:=by obtain⟨t,H,own,rfl,y,-⟩:=h;exact asT y p2 t.iE c
theorem dY.state(h:dY C par bj gw O k aa W) n :aK aR 19 #[aj (I ⟨gw,0,U⟩),G J n] W λe j=>∃vl vp va,e=ak (av (eO (qI O n) vl vp va))/\nC (λk=>k<D (L W)) (qI O n) vl vp va j/\K W j:=by obtain⟨t,H,own,rfl,y,-⟩:=h;grind [ae0,p2,pB]
theorem dY.busy(h:dY C par bj gw O k aa W) n :aK aR 125 #[aj (I ⟨gw,0,U⟩),G J n] W λe j=>e=ak (G J (Jb O n:Int))/\K W j:=by obtain⟨t,H,own,rfl,y,-⟩:=h;grind [auj,p2,pB]
theorem dY.up(h:dY C par bj gw O k aa W) n :aK aR 55 #[aj (I ⟨gw,0,U⟩),G J n] W λe j=>e=ak (ar (eK O n).isSome)/\j=W:=by obtain⟨t,H,own,rfl,y,-⟩:=h;exact RO y p2 pB t.iE n
end
theorem amU par bj room y t w(O:bD eH par y w)(M:bD eH bj t w)(C:iH par=aA)(A:mU par bj=aA)(B:jM (fA (eN eZ))<=room)(z:room<=1048576) aa(N:∀b,aa b->b<D (L w)) :aK aR 16 #[y,t,G J room] w λe j=>∃gw,e=ak (au #[aj (I ⟨gw,0,U⟩),G J 0])/\dY (λ_=>False) par bj gw (mC par bj room) 0 aa j/\K w j:=by refine (avw par bj room y t w O M C A B z).mono ?_;rintro e j⟨H,own,rfl,S,Q,k⟩;have:=k.size;exact⟨_,rfl,⟨cU.new C A B z,H,own,rfl,S,λb R=>⟨bL,Q b (N b R)⟩,λ_ h=>h.elim⟩,k⟩
def sy(j:List kI)(k:Int×Int):List kI×Int:=match nX j k with
 | none=>(j,140)
 | some []=>(j,141)
 | some (_ :: l)=>(jW j k l,0)
def s6(j:List kI)(k:Int×Int):List kI×Int:=match nX j k with
 | none=>(j,140)
 | some []=>(j,141)
 | some (m :: l)=>(jW j k (l++[m]),0)
def sX(j:List kI)(k:Int×Int):List kI×Int:=match nX j k with
 | none=>(j,140)
 | some []=>(j,141)
 | some (m :: l)=>if Z l=7 then (j,141)else (jW j k (m :: l++[m]),0)
section
variable {gn gm c:Nat}{bC:List ((Int×Int)×aQ)}{l:List aQ}{w:aP}{a b:Int}
theorem aA1(hb:bn w gn 153 #[.map (I gm)])(hm:fP qM w gm bC)(hk:eX bC (a,b)=U) :aK aR 110 #[aj (I ⟨gn,0,U⟩),G J a,G J b] w λe w'=>e=ak (G J 140)/\w'=w:=SU
theorem ay3(hb:bn w gn 153 #[.map (I gm)])(hm:fP qM w gm bC)(hk:eX bC (a,b)=U) :aK aR 109 #[aj (I ⟨gn,0,U⟩),G J a,G J b] w λe w'=>e=ak (G J 140)/\w'=w:=SU
theorem avz(hb:bn w gn 153 #[.map (I gm)])(hm:fP qM w gm bC)(hk:eX bC (a,b)=I (.chan (I c)))(R:mY c l w)(Q:∀x∈l,∃A n d,x=F A n d)(h8:Z l<=8) :aK aR 110 #[aj (I ⟨gn,0,U⟩),G J a,G J b] w λe t=>e=ak (G J (if l=[]then 141 else 0))/\mY c (l.tail++l.take 1) t/\bf (λk=>k=c) w t:=by
 have C:=aY (Iy a b w hb hm);have M:=aY (WU c l w R);rw[hk]at C;go_in;go_wp2_with fail
 apply bW C.aX;rintro t rfl;simp only[Option.getD_some,Option.isSome_some];go_wp2_with fail
 apply bW M.aX;rintro O⟨B,z⟩;cases l with
 | nil => have j:=aY (aB B z);go_wp2;go_ret;exact⟨rfl,j.aX⟩
 | cons x l =>
  obtain⟨A,n,d,rfl⟩:=Q x bu;have y:=aY (Nr c l (F A n d) O B);have j:=aY z;have H:Z l<8:=by simp at h8;omega
  simp only[List.headD_cons,List.isEmpty_cons,Bool.not_false];rw[bV H]at y;go_wp2_with fail
  apply bW y.aX;rintro V⟨N,S⟩;have T:=aY (aB N (j.aX.tr S));go_wp2;go_ret;exact⟨bu,by simpa using T.aX⟩
def Ks(c:Nat)(l:List aQ)(bs:List UInt8)(w:aP)(e:Ending)(w':aP):Prop :=
 if l=[]\/Z l=8 then e=ak (G J 141)/\w'=w else e=ak (G J 0)/\(∃j,mY c (l++[j]) w'/\Fx (λk=>k<D (L w)) (λW=>sl bs j W) w')/\bf (λk=>k=c) w w'
theorem aul(hb:bn w gn 153 #[.map (I gm)])(hm:fP qM w gm bC)(hk:eX bC (a,b)=I (.chan (I c)))(hc:mY c l w)(h8:Z l<=8)(bs:List UInt8)(hs:∀x∈l,∃A n d,x=F A n d)(hv:∀x,l.head?=I x->Fx (λk=>k=c) (λW=>sl bs x W) w)(hn:Z bs<=1000000000) :aK aR 109 #[aj (I ⟨gn,0,U⟩),G J a,G J b] w (Ks c l bs w):=by
 have zj:=aY λ(h:l=[]\/Z l=8)=>show Ks c l bs w (ak (G J 141)) w by unfold Ks;rw[bV h];exact⟨rfl,rfl⟩
 have uv:=aY λ(h:¬(l=[]\/Z l=8)) z q=>show Ks c l bs w (ak (G J 0)) z by unfold Ks;rw[bQ h];exact⟨rfl,q⟩
 generalize Ks c l bs w=PP at *;have C1:=aY (Iy a b w hb hm);have HC:=aY hc;obtain⟨s,r,hc⟩:=hc;have hlen:∀ty,(Builtin.len_ #[155] ty #[.chan (I c)]).run aR w=.ok (G J (Z l)) w:=λty=>by exact ajV
 rw[hk]at C1;go_in;go_wp2_with fail
 apply bW C1.aX;rintro z rfl;simp only[Option.getD_some,Option.isSome_some];cases l with
 | nil => go_wp2;exact zj.aX (aI trivial)
 | cons x l =>
  have h0:(((Z (x :: l):Nat):Int)==0)=false:=cN;by_cases h9:Z (x :: l)=8
  .have h9i:((Z (x :: l):Nat):Int)=8:=aZ;go_wp2;exact zj.aX (aJ h9)
  replace uv:=aY (uv.aX (by simp;simp at h9;omega));have h9i:(((Z (x :: l):Nat):Int)==8)=false:=Zd;have h7:Z (x :: l)<8:=aZ;have HX:=aY (hv x rfl);obtain⟨A,n,d,rfl⟩:=hs x bu;have HS:=aY hs;have HL:Hid ((F A n d :: l)[0]?=I (F A n d)):=aY rfl;generalize hL:F A n d :: l=t at *;have HNE:=aY hL;have Q:Hid (mY c (t.drop 0++t.take 0) z/\bf (λk=>k=c) z z):=aY ⟨by simpa using HC.aX,bf.rf _ _⟩;have HI:=aY HC.aX.lt;go_wp2_with fail
  go_loopw [10,11,12,13,33] (fun f _ _ _ i W=>∃j:Nat,j<=Z t/\i=G J j/\f=(if j=0 then F U 0 0 else F A n d)/\Hid (mY c (t.drop j++t.take j) W/\bf (fun k=>k=c) z W)) (fun _ _ _ _ i _=>Z t-(aO i).toNat)
  case atStart=>exact⟨0,fw _,rfl,rfl,Q⟩
  case round =>
   obtain⟨j,hj,rfl,rfl,T⟩:=hrel;by_cases S:j<Z t
   .have cE:(j:Int)<Z t:=aZ;have hd:t.drop j++t.take j=t[j] :: (t.drop (j+1)++t.take j):=by rw[List.drop_eq_getElem_cons S];rfl
    have B:=WU c _ wr T.aX.1;rw[hd]at B;replace B:=aY B;obtain⟨X,n1,Y,R⟩:=HS.aX _ (dJ S);have C:=aY T.aX.2;have HE:Hid (j=0->F X n1 Y=F A n d):=aY λe=>by subst e;have:=HL.aX;rw[aE S,R]at this;injection this
    have V:Hid (t.drop (j+1)++t.take j++[F X n1 Y]=t.drop (j+1)++t.take (j+1)):=aY (by rw[iY S,R,gA]);rw[R]at B;by_cases hz:j=0
    .have hz1:((j:Int)==0)=true:=Lb;have e9:=aY (HE.aX hz);rw[bV hz];go_wp2_with fail
     apply bW B.aX;rintro H⟨O,N⟩;have y:=Nr c _ (F X n1 Y) H O;simp only[List.tail_cons,bV (show Z (t.drop (j+1)++t.take j)<8 by simp;omega),V.aX]at y;replace y:=aY y;replace C:=aY (C.aX.tr N);simp only[List.headD_cons,List.isEmpty_cons,Bool.not_false];go_wp2_with fail
     apply bW y.aX;rintro w4⟨hc4,u4⟩;have Q:=aY (aB hc4 (C.aX.tr u4));go_wp2;go_roundw
     case rel=>exact⟨j+1,aZ,dh,by rw[e9.aX,bQ (Nat.succ_ne_zero j)],Q⟩
     case measure=>simp[aO];omega
    have hz1:((j:Int)==0)=false:=Zd;rw[bQ hz];go_wp2_with fail
    apply bW B.aX;rintro H⟨O,N⟩;have y:=Nr c _ (F X n1 Y) H O;simp only[List.tail_cons,bV (show Z (t.drop (j+1)++t.take j)<8 by simp;omega),V.aX]at y;replace y:=aY y;replace C:=aY (C.aX.tr N);simp only[List.headD_cons,List.isEmpty_cons,Bool.not_false];go_wp2_with fail
    apply bW y.aX;rintro w4⟨hc4,u4⟩;have Q:=aY (aB hc4 (C.aX.tr u4));go_wp2;go_roundw
    case rel=>exact⟨j+1,aZ,dh,by rw[bQ (Nat.succ_ne_zero j)],Q⟩
    case measure=>simp[aO];omega
   have cE:¬(j:Int)<Z t:=aZ;obtain rfl:j=Z t:=aZ;have hj0:Z t≠0:=λe=>by rw[e]at h0;cases h0
   obtain⟨A',d',e',hr⟩:=HX.aX wr T.aX.2;injection e' with R e2 e3;subst R e2 e3;have B:=aY (Nd A (Z bs) d _ wr hr (yd bs) hn);have HQ:Hid (mY c t wr/\bf (λk=>k=c) z wr):=aY (by simpa using T.aX);rw[bQ hj0];go_wp2_with fail
   apply dP B.aX;rintro M w2⟨ho,k2⟩;have y:=Nr c t M w2 (HQ.aX.1.cF (bf.cz k2 (λ_=>False)) id);simp only[bV h7]at y;replace y:=aY y;have hz:=HQ.aX.2.size;have V:=aY (show Fx (λk=>k<D (L z)) (λW=>sl bs M W) w2 from λW u=>gS (kj ho u λk e h=>by have:=(ho.lt k e).1;omega));have C:=aY (HQ.aX.2.tr (bf.cz k2 _));go_wp2_with fail
   apply bW y.aX;rintro H⟨O,N⟩;have H3:=aY (show (∃M,mY c (t++[M]) H/\Fx (λk=>k<D (L z)) (λW=>sl bs M W) H)/\bf (λk=>k=c) z H from ⟨⟨M,O,V.aX.up N λk e=>e▸HI.aX⟩,C.aX.tr N⟩);go_wp2;exact uv.aX _ H3.aX
end
section
variable {M C:Nat->Prop}{gn:Nat}{aT:List kI}{W:aP}{a b:Int}
theorem avA(h:pC M C gn aT W) :aK aR 108 #[aj (I ⟨gn,0,U⟩),G J a,G J b] W λe z=>e=ak (G J (sy aT (a,b)).2)/\bf C W z/\pC M C gn (sy aT (a,b)).1 z:=by
 have H:=aY (afP (a:=a) (b:=b) h);go_in;go_wp2_with fail
 refine H.aX.mono ?_;rintro e y⟨v,B,rfl,u,h⟩;have A:Hid (B=(sy aT (a,b)).2/\bf C W y/\pC M C gn (sy aT (a,b)).1 y):=aY (by
  unfold sy;rcases h with ⟨t,rfl,j⟩|⟨t,rfl,j⟩|⟨m,l,t,rfl,j,-⟩;rw[t];exact⟨rfl,u,j⟩;rw[t];exact⟨rfl,u,j⟩;rw[t];exact⟨rfl,u,j⟩)
 go_wp2;go_ret;exact⟨by rw[A.aX.1];rfl,A.aX.2⟩
theorem avB(h:pC M C gn aT W)(V:∀q∈aT,Z q.2<=8) :aK aR 110 #[aj (I ⟨gn,0,U⟩),G J a,G J b] W λe t=>e=ak (G J (s6 aT (a,b)).2)/\bf C W t/\pC M C gn (s6 aT (a,b)).1 t:=by
 obtain⟨gm,bC,h⟩:=h;have hU:=h.kn;rcases Ld bC aT (a,b) h.len (λi h1 y=>(h.ls i h1 y).1)with ⟨h1,y⟩|⟨i,h1,y,h3,H,h5⟩;apply bW (aA1 h.blk h.map DK);rintro t rfl;unfold s6;rw[h1];exact Tv;obtain⟨c,vs,e,B,q2,q3,q4⟩:=(h.ls i h1 y).2;have T:∀x∈vs,∃A n d,x=F A n d:=λx hx=>by exact aam
 have hle:=V _ (dJ y);apply bW (avz h.blk h.map DK q2 T aZ);rintro t⟨hc,u⟩;have hM:=h.sub c B;obtain⟨z,nB⟩:∃z,aT[i].2=z:=⟨_,rfl⟩;simp only[nB]at H q3 q4;unfold s6;rw[H];have key:∀l,Z (vs.tail++vs.take 1)=Z l->(∀(j:Nat) (hj:j<Z (vs.tail++vs.take 1)) (X:j<Z l),Z l[j]<=1000000000/\Fx M (λW=>sl l[j] (vs.tail++vs.take 1)[j] W) t)->zy M C gn gm bC (jW aT (a,b) l) t:=λl e1 S =>
  h.set h1 h3 e u ⟨c,_,e,B,hc,e1,S⟩
 have O:bf C W t:=u.more λk R=>R▸B
 cases z with
 | nil =>
  obtain rfl:vs=[]:=List.eq_nil_of_length_eq_zero OC;have Q:jW aT (a,b) []=aT:=List.ext_getElem aan λj g1 g2=>by exact amg
  exact⟨rfl,O,gm,bC,Q▸key [] bu (λj hj=>by simp at hj)⟩
 | cons m l =>
  cases vs with
  | nil=>simp at q3
  | cons x vs => refine⟨rfl,O,gm,bC,key _ OC λj hj X=>?_⟩;have Y:Z vs=Z l:=OC;simp only[List.tail_cons,TP,TU]at hj|-;by_cases N:j<Z vs;have:=q4 (j+1) (by simpa using N) cN;simp only[List.getElem_append_left N,List.getElem_append_left (show j<Z l by omega)];exact aao;have:=q4 0 bu bu;obtain rfl:j=Z vs:=Tn;simp only[List.getElem_concat_length,Y];exact aao
theorem aum(h:pC M C gn aT W)(hl:∀k,M k->k<D (L W))(hf:∀q∈aT,Z q.2<=8) :aK aR 109 #[aj (I ⟨gn,0,U⟩),G J a,G J b] W λe O=>e=ak (G J (sX aT (a,b)).2)/\bf C W O/\pC M C gn (sX aT (a,b)).1 O:=by
 obtain⟨gm,bC,h⟩:=h;rcases Ld bC aT (a,b) h.len (λi H N=>(h.ls i H N).1)with ⟨H,N⟩|⟨i,H,N,h3,T,h5⟩;apply bW (ay3 h.blk h.map DK);rintro O rfl;unfold sX;rw[H];exact Tv;obtain⟨c,vs,e,Q,q2,t,q4⟩:=(h.ls i H N).2;have mF:∀x∈vs,∃A n d,x=F A n d:=λx hx=>by exact aam
 have hle:=hf _ (dJ N);have S:=h.sub c Q;obtain⟨B,nB⟩:∃B,aT[i].2=B:=⟨_,rfl⟩;simp only[nB]at T t q4 hle;refine (aul h.blk h.map DK q2 aZ (B.headD []) mF (λx hx=>?_) ?_).mono ?_
 .cases vs with
  | nil=>cases hx
  | cons y vs =>
   cases B with
   | nil=>simp at t
   | cons m l => obtain rfl:y=x:=Sl;exact (q4 0 bu bu).2.less λk e=>e▸S
 .cases B with
  | nil=>simp
  | cons m l=>exact (q4 0 (by simp only[gH]at t;omega) bu).1
 intro e O z;unfold Ks at z;unfold sX;rw[T];cases B with
 | nil => rw[bV (aI (List.eq_nil_of_length_eq_zero t))]at z;obtain⟨rfl,rfl⟩:=z;exact Tv
 | cons m l =>
  simp only[gH]at t;by_cases V:Z l=7;rw[bV (aJ aZ)]at z;obtain⟨rfl,rfl⟩:=z;dsimp only;rw[bV V];exact Tv;rw[bQ (λh9=>h9.elim (λe=>by rw[e]at t;simp at t) λe=>aZ)]at z;obtain⟨rfl,⟨v',hc,Y⟩,u⟩:=z;dsimp only;rw[bQ V];have hm:=(q4 0 aZ bu).1;refine⟨rfl,u.more λk X=>X▸Q,gm,bC,h.set H h3 iF u ⟨c,_,iF,Q,hc,cN,λj hj hj'=>?_⟩⟩;by_cases R:j<Z vs;simp only[List.getElem_append_left R,List.getElem_append_left (show j<Z (m :: l) by simp;omega)];exact⟨(q4 j R cN).1,(q4 j R cN).2.up u λk e=>e▸S⟩;obtain rfl:j=Z vs:=Tn;have e1:(m :: l++[m])[Z vs]'hj'=m:=by rw[List.getElem_append_right (by simp;omega)];simp
  rw[e1];simp only[List.getElem_concat_length];exact⟨hm,Y.less hl⟩
end
def mE(O:cT)(f:List kI->Int×Int->List kI×Int)(a b:Int):cT×Int:=({ O with dV:=(f O.dV (a,b)).1 },(f O.dV (a,b)).2)
section
variable {W W2:aP}{H:nY}{own:Nat->Nat}{O:cT}{par bj:List Int}{gw k:Nat}{C aa:Nat->Prop}
theorem WS{j fb:Nat}{a b:Int}{R:cT×Int}(h:cS H own O W eJ)(t:H.vn=aj (I ⟨j,0,U⟩))(z:∀args W,(callFunc fb args).run aR W=.ok (.enter fb args) W)(y:aK aR fb #[aj (I ⟨j,0,U⟩),G J a,G J b] W λe w'=>e=ak (G J R.2)/\eW H own R.1 W w') :aK aR 107 #[aj (I ⟨H.gw,0,U⟩),G J a,G J b,.func (.func fb) #[] #[]] W λe w'=>e=ak (G J R.2)/\eW H own R.1 W w':=by have C1:=aY y;have q:=(h.im p2).blk.cell;rw[t]at q;exact Tw
theorem aun(h:cS H own O W eJ) a b :aK aR 62 #[aj (I ⟨H.gw,0,U⟩),G J a,G J b] W λe j=>e=ak (G J (mE O sy a b).2)/\eW H own (mE O sy a b).1 W j:=by obtain⟨A,t,hN⟩:=h.dV (show eJ 3 by grind [eJ]);have C1:=aY (WS (a:=a) (b:=b) (R:=mE O sy a b) h t (fb:=108) (λ_ _=>rfl) ((avA hN).mono λe j ⟨y,u,z⟩=>⟨y,h.T1 t z u⟩));exact Tw
theorem auo(h:cS H own O W eJ)(y:∀q∈O.dV,Z q.2<=8) a b :aK aR 64 #[aj (I ⟨H.gw,0,U⟩),G J a,G J b] W λe j=>e=ak (G J (mE O s6 a b).2)/\eW H own (mE O s6 a b).1 W j:=by obtain⟨B,t,hN⟩:=h.dV (show eJ 3 by grind [eJ]);have C1:=aY (WS (a:=a) (b:=b) (R:=mE O s6 a b) h t (fb:=110) (λ_ _=>rfl) ((avB hN y).mono λe j ⟨z,u,A⟩=>⟨z,h.T1 t A u⟩));exact Tw
theorem aty(h:cS H own O W eJ)(y:∀q∈O.dV,Z q.2<=8) a b :aK aR 63 #[aj (I ⟨H.gw,0,U⟩),G J a,G J b] W λe j=>e=ak (G J (mE O sX a b).2)/\eW H own (mE O sX a b).1 W j:=by obtain⟨B,t,hN⟩:=h.dV (show eJ 3 by grind [eJ]);have C1:=aY (WS (a:=a) (b:=b) (R:=mE O sX a b) h t (fb:=109) (λ_ _=>rfl) ((aum hN h.lo y).mono λe j ⟨z,u,A⟩=>⟨z,h.T1 t A u⟩));exact Tw
theorem ahp(t:List kI)(j:∀q∈t,Z q.2<=8) k:(sy t k).1.map (·.1)=t.map (·.1)/\∀q∈(sy t k).1,Z q.2<=8:=by
 unfold sy;split;exact⟨rfl,j⟩;exact⟨rfl,j⟩;next m l h =>
 have y:=j _ (zK h);exact⟨KX _ _ _,KY j (by simp at y;omega)⟩
theorem ahq(j:List kI)(hf:∀q∈j,Z q.2<=8) k:(s6 j k).1.map (·.1)=j.map (·.1)/\∀q∈(s6 j k).1,Z q.2<=8:=by
 unfold s6;split;exact⟨rfl,hf⟩;exact⟨rfl,hf⟩;next m l h =>
 have h0:=hf _ (zK h);exact amV
theorem agt(j:List kI)(hf:∀q∈j,Z q.2<=8) k:(sX j k).1.map (·.1)=j.map (·.1)/\∀q∈(sX j k).1,Z q.2<=8:=by
 unfold sX;split;exact⟨rfl,hf⟩;exact⟨rfl,hf⟩;next m l h =>
 have h0:=hf _ (zK h);split;exact⟨rfl,hf⟩;exact amV
theorem dY.drop(h:dY C par bj gw O k aa W) a b :
 aK aR 62 #[aj (I ⟨gw,0,U⟩),G J a,G J b] W λe j=>e=ak (G J (mE O sy a b).2)/\mL C par bj gw (mE O sy a b).1 k aa W j :=
 h.go (args:=λp=>#[p,G J a,G J b]) (λH own t=>aun t a b) (h.1.dV (ahp _ h.1.few _).1 (ahp _ h.1.few _).2)
theorem dY.turn(h:dY C par bj gw O k aa W) a b :
 aK aR 64 #[aj (I ⟨gw,0,U⟩),G J a,G J b] W λe j=>e=ak (G J (mE O s6 a b).2)/\mL C par bj gw (mE O s6 a b).1 k aa W j :=
 h.go (args:=λp=>#[p,G J a,G J b]) (λH own t=>auo t h.1.few a b) (h.1.dV (ahq _ h.1.few _).1 (ahq _ h.1.few _).2)
theorem dY.twice(h:dY C par bj gw O k aa W) a b :
 aK aR 63 #[aj (I ⟨gw,0,U⟩),G J a,G J b] W λe j=>e=ak (G J (mE O sX a b).2)/\mL C par bj gw (mE O sX a b).1 k aa W j :=
 h.go (args:=λp=>#[p,G J a,G J b]) (λH own t=>aty t h.1.few a b) (h.1.dV (agt _ h.1.few _).1 (agt _ h.1.few _).2)
end
def oF(O:cT)(z a b:Int)(e:List eD)(i:bY):cT×Int :=
 if z=1 then oZ O a else
 if z=2 then nH O a b else
 if z=3 then mE O sy a b else
 if z=4 then mE O sX a b else
 if z=5 then mE O s6 a b else
 if z=6 then xi O a else
 if z=7 then xb O a else
 if z=8 then (zP O,0)else
 if z=10 then ((eS O a i λl=>ij l i e).1,(eS O a i λl=>ij l i e).2.2)else
 if z=11 then ((eS O a i λl=>iK l i).1,(eS O a i λl=>iK l i).2.2)else
 if z=12 then ((eS O a i λl=>jD l i).1,(eS O a i λl=>jD l i).2.2)else
 if z=15 then ((jU O a).1,(jU O a).2.2)else
 (O,0)
theorem mL.late{C par bj gw O k j t w W W'}(h:mL C par bj gw O k t W W')(hk:k<=j)(u:K w W):mL C par bj gw O j t w W':=by obtain⟨⟨A,z⟩,y⟩:=h;exact⟨⟨A.mono hk,z⟩,(bf.cz u _).tr y⟩
theorem avC{C par bj gw O k T W}(h:dY C par bj gw O k T W)(hp:Z par<=6)(hk:k+588<=40000)(c:vR) ve vf(hc:Jh c)(H:iI c.e ve W)(hf:fZ c.f vf W)(hel:Z c.e<=1000000)(i:bY)(S:ew i) :aK aR 27 #[aj (I ⟨gw,0,U⟩),av (Ei c ve vf),dD i] W λe N=>e=ak (G J (oF O c.bA c.a c.b c.e i).2)/\mL C par bj gw (oF O c.bA c.a c.b c.e i).1 (k+588) T W N:=by
 obtain⟨z,a,b,e,f⟩:=c;obtain⟨y,c1,rfl⟩:∃A c,ve=F A (Z e) c:=by obtain⟨A,c,rfl,-⟩:=H;exact⟨A,c,rfl⟩
 obtain⟨M,c2,rfl⟩:∃A c,vf=F A (Z f) c:=by obtain⟨A,c,rfl,-⟩:=hf;exact⟨A,c,rfl⟩
 have HD:Hid (oF O z a b e i=oF O z a b e i):=aY rfl;generalize V:oF O z a b e i=R at HD|-;have j:=aY V;have X:=K.ou W (aq #[G J z,G J a,G J b,F y (Z e) c1,F M (Z f) c2] 55) (aq (eI i) 42);have Y:=(bn.new W 55 #[G J z,G J a,G J b,F y (Z e) c1,F M (Z f) c2]).alloc (aq (eI i) 42);have Q:=bn.new (aU W (aq #[G J z,G J a,G J b,F y (Z e) c1,F M (Z f) c2] 55)) 42 (eI i);go_in;go_upto_region 1 with fail;rw[show D (L (aU W (aq #[G J z,G J a,G J b,F y (Z e) c1,F M (Z f) c2] 55)))=D (L W)+1 by simp]at Q;generalize (aU W _).alloc _=B at *;generalize D (L W)=g1 at Y Q|-;have t:=h.st X;have H:=mq _ _ _ _ H X;have:=Y.cells B (K.rf _);have:=Q.cells B (K.rf _);have HF:=aY λR k' N (hQ:mL C par bj gw R k' T B N) (hk':k'<=k+588)=>hQ.late hk' X
 by_cases hz:z=1;subst hz;obtain rfl:oZ O a=R:=j.aX;have C:=aY (t.tick aZ a);exact BZ;replace j:Hid (oF O z a b e i=R):=j;have:(z==1)=false:=xf;by_cases hz:z=2;subst hz;obtain rfl:nH O a b=R:=j.aX;have C:=aY (t.Fc aZ a b);exact BZ;replace j:Hid (oF O z a b e i=R):=j;have:(z==2)=false:=xf;by_cases hz:z=3;subst hz;obtain rfl:mE O sy a b=R:=j.aX;have C:=aY (t.drop a b);exact BZ;replace j:Hid (oF O z a b e i=R):=j;have:(z==3)=false:=xf;by_cases hz:z=4;subst hz;obtain rfl:mE O sX a b=R:=j.aX;have C:=aY (t.twice a b);exact BZ;replace j:Hid (oF O z a b e i=R):=j;have:(z==4)=false:=xf;by_cases hz:z=5;subst hz;obtain rfl:mE O s6 a b=R:=j.aX;have C:=aY (t.turn a b);exact BZ;replace j:Hid (oF O z a b e i=R):=j;have:(z==5)=false:=xf;by_cases hz:z=6;subst hz;obtain rfl:xi O a=R:=j.aX;have C:=aY (t.Ln a b hc.2.2.1);exact BZ;replace j:Hid (oF O z a b e i=R):=j;have:(z==6)=false:=xf;by_cases hz:z=7;subst hz;obtain rfl:xb O a=R:=j.aX;have C:=aY (t.OH aZ a);exact BZ;replace j:Hid (oF O z a b e i=R):=j;have:(z==7)=false:=xf;by_cases hz:z=8;subst hz;obtain rfl:(zP O,0)=R:=j.aX;have C:=aY (t.round hp hk);exact BZ;replace j:Hid (oF O z a b e i=R):=j;have:(z==8)=false:=xf;by_cases hz:z=10;subst hz;obtain rfl:((eS O a i λl=>ij l i e).1,(eS O a i λl=>ij l i e).2.2)=R:=j.aX;have C:=aY (t.Fb a S H hel hc.2.2.2.1);exact BZ;replace j:Hid (oF O z a b e i=R):=j;have:(z==10)=false:=xf;by_cases hz:z=11;subst hz;obtain rfl:((eS O a i λl=>iK l i).1,(eS O a i λl=>iK l i).2.2)=R:=j.aX;have C:=aY (t.Fi a S);exact BZ;replace j:Hid (oF O z a b e i=R):=j;have:(z==11)=false:=xf;by_cases hz:z=12;subst hz;obtain rfl:((eS O a i λl=>jD l i).1,(eS O a i λl=>jD l i).2.2)=R:=j.aX;have C:=aY (t.abort a S);exact BZ;replace j:Hid (oF O z a b e i=R):=j;have:(z==12)=false:=xf;by_cases hz:z=15
 .subst hz;obtain rfl:((jU O a).1,(jU O a).2.2)=R:=j.aX;have C:=aY (t.Pz aZ a);go_wp2_with fail
  refine C.aX.mono ?_;rintro e w2⟨⟨v,rfl,hv⟩,hQ⟩;obtain⟨A3,c3,rfl⟩:=bH hv;exact amW
 replace j:Hid (oF O z a b e i=R):=j;have:(z==15)=false:=xf;have V:R=(O,0):=by rw[<- j.aX];unfold oF;simp only[beq_eq_false_iff_ne]at *;simp[*]
 subst V;have hE:=aY (HF.aX O k B ⟨t,bf.rf _ _⟩ aZ);go_wp2;go_ret;exact⟨rfl,hE.aX⟩
def FA(b:Int):Nat:=(E.wrap b).toNat
theorem aCh b:E.wrap b=(FA b:Int):=by unfold FA;simp[IntKind.wrap_u64];omega
theorem aCi b:FA b<18446744073709551616:=by unfold FA;simp[IntKind.wrap_u64];omega
def tT(O:cT)(z a b:Int)(f:List fo):cT×bY×Int :=
 if z=9 then lQ O a else if z=13 then oC O a (FA b) f else uE O a (FA b)
theorem atz{C par bj gw O k j W}(h:dY C par bj gw O k j W)(hk:k<=40000)(c:vR) ve vf(t:Jh c)(jH:iI c.e ve W)(A:fZ c.f vf W)(dU:Z c.f<=1000000) :aK aR 26 #[aj (I ⟨gw,0,U⟩),av (Ei c ve vf)] W λe w'=>e=ak (au #[dD (tT O c.bA c.a c.b c.f).2.1,G J (tT O c.bA c.a c.b c.f).2.2])/\mL C par bj gw (tT O c.bA c.a c.b c.f).1 (k+1) j W w':=by
 obtain⟨z,a,b,e,f⟩:=c;obtain⟨y,c1,rfl⟩:=tN jH;obtain⟨B,c2,rfl⟩:=dX A;generalize S:tT O z a b f=R;have N:=aY S;have hl:=h.lt;have T:=K.ou W (aq #[G J z,G J a,G J b,F y (Z e) c1,F B (Z f) c2] 55) (aq #[G J 0,G E 0,G E 0] 42);have cK:=(bn.new W 55 #[G J z,G J a,G J b,F y (Z e) c1,F B (Z f) c2]).alloc (aq #[G J 0,G E 0,G E 0] 42);have Q:=bn.new (aU W (aq #[G J z,G J a,G J b,F y (Z e) c1,F B (Z f) c2] 55)) 42 #[G J 0,G E 0,G E 0];have hw:=aY (aCh b);have hu:=aCi b;go_in;go_upto_region 1 with fail;rw[show D (L (aU W (aq #[G J z,G J a,G J b,F y (Z e) c1,F B (Z f) c2] 55)))=D (L W)+1 by simp]at Q;have:=Q.lt;have M:=h.to (C':=λb=>C b\/b=D (L W)+1) (Z':=j) (bf.cz T _) (λ_ h=>aI h) (λb hb=>hb.imp id λe=>⟨aZ,aZ⟩) (λb hb hz=>absurd (hl b (aI hz)) aZ);generalize (aU W _).alloc _=V at *;have A:=fO _ _ _ _ A T;have:=cK.cells V (K.rf _);have HF:=aY λ(i:bY) R' w2 (hQ:mL (λb=>C b\/b=D (L W)+1) par bj gw R' (k+1) j V w2)=>show bn w2 (D (L W)+1) 42 #[G J 0,G E 0,G E 0]/\mL C par bj gw R' (k+1) j W (ei w2 (D (L W)+1) 0 (gF i))from by
  have hb:=Q.cF hQ.2 λh=>h.2 (aJ rfl)
  have u9:=bf.sets (X:=λb=>b=D (L W)+1) rfl (gF i) 0 w2;exact⟨hb,hQ.1.to (u9.more λ_ h=>aJ h) (λ_ h=>aI h) (λ_ h=>aI (aI h)) (λb hb hz=>absurd (hQ.1.lt b (aI hz)) aZ),
   ((bf.cz T _).tr (hQ.2.more (Y:=λb=>¬j b/\¬C b) λb h=>⟨h.1,λt=>h.2 (aI t)⟩)).ir u9 λb hb e=>absurd hb aZ⟩
 simp only[ei,gF]at HF;by_cases hz:z=9;subst hz;have H:lQ O a=R:=N.aX;have C:=M.begin hk t.2.1;rw[H]at C;replace C:=aY C;exact amX;have:(z==9)=false:=xf;by_cases hz:z=13;subst hz;have H:oC O a (FA b) f=R:=N.aX;have C:=M.sub hk t.2.1 hu A t.2.2.2.2 dU;rw[H]at C;exact amY;have:(z==13)=false:=xf;have S:uE O a (FA b)=R:=by rw[<- N.aX];unfold tT;grind
 have C:=M.O4 hk t.2.1 hu;rw[S]at C;exact amY
section
variable {P:bU->Prop}{T:eU->Prop}{aT A L' A':bY->Prop}{B:cJ}{r:Rec}
structure JB(P:bU->Prop)(T:eU->Prop)(aT A:bY->Prop)(B:cJ):Prop where
 tx:∀t∈B.bI,T t
 dm:∀p∈B.dm,∀x∈p.2.cR,P x
 dy:∀x∈B.dy,P x
 bq:∀x∈B.st.bq,aT (bE x)
 ab:∀a∈B.st.ab,A a
 cA:∀a∈B.cA,A a
theorem JB.mono(h:JB P T aT A B)(t:∀a,aT a->L' a)(hA:∀a,A a->A' a):JB P T L' A' B :=
 ⟨h.tx,h.dm,h.dy,λx y=>t _ (h.bq x y),λa j=>hA _ (h.ab a j),λa j=>hA _ (h.cA a j)⟩
theorem Xq{l:List eU}{a t}(h:t∈gU l a):t∈l:=by grind [gU,List.mem_of_mem_eraseIdx]
theorem ah6(B:cJ){r:Rec}(hk:r.bA≠1):(∀t∈(eQ B r).1.bI,t∈B.bI) /\((eQ B r).1.st.bq=B.st.bq\/r.bA=2/\dM B.st.bq (bE r.e)=az/\(eQ B r).1.st.bq=B.st.bq++[r.e]) /\((eQ B r).1.st.ab=B.st.ab\/r.bA=4/\(eQ B r).1.st.ab=B.st.ab++[jT r]):=by grind [eQ,Xq,fX,yV,yX,yY,AZ]
theorem JB.note(h:JB P T aT A B)(hk:r.bA≠1)(S:r.bA=2->aT (bE r.e))(hA:r.bA=4->A (jT r)):JB P T aT A (eQ B r).1:=by
 obtain⟨O,N,R⟩:=ah6 B hk;have C:=Gt (B:=B) hk;refine⟨λt Q=>h.tx t (O t Q),λp M=>h.dm p (C.dm▸M),λx y=>h.dy x (C.dy▸y),λx y=>?_,λa j=>?_,λa j=>h.cA a (C.cA▸j)⟩;rcases N with e|⟨z,-,e⟩;exact h.bq x (e▸y);rw[e,r7,List.mem_singleton]at y;exact y.elim (h.bq x) λH=>H▸S z
 rcases R with e|⟨z,e⟩;exact h.ab a (e▸j);rw[e,r7,List.mem_singleton]at j;exact j.elim (h.ab a) λH=>H▸hA z
def RB(P:bU->Prop)(s:eT):Prop:=∀x∈s.bq,P x
def tru:bY->Prop:=λ_=>True
def RQ(P:bU->Prop)(T:eU->Prop)(B:cJ):Prop:=JB P T tru tru B/\RB P B.st
theorem RQ.note(h:RQ P T B)(hk:r.bA≠1)(z:r.bA=2->P r.e):RQ P T (eQ B r).1:=by refine⟨h.1.note hk (λ_=>trivial) λ_=>trivial,?_⟩;obtain⟨-,A,-⟩:=ah6 B hk;intro x j;rcases A with e|⟨t,-,e⟩;exact h.2 x (e▸j);rw[e,r7,List.mem_singleton]at j;exact j.elim (h.2 x) λy=>y▸z t
theorem RQ.bq(h:RQ P T B){x}(j:P x):RQ P T (nM B x).1:=h.note yh λ_=>j
theorem RQ.abort(h:RQ P T B) a:RQ P T (oU B a).1:=by have j:=h.note (r:=lE 4 a) yi yi;unfold oU;split;exact⟨⟨λt y=>j.1.tx t (Xq y),j.1.dm,j.1.dy,j.1.bq,j.1.ab,j.1.cA⟩,j.2⟩;exact h
theorem RQ.lists:∀ {l:List bU} {B:cJ},RQ P T B->(∀x∈l,P x)->RQ P T (l.foldl (λb x=>(nM b x).1) B)
 | [],_,h,_=>h
 | x :: l,_,h,hl=>RQ.lists (l:=l) (h.bq (hl x (List.mem_cons_self ..))) λy j=>hl y (List.mem_cons_of_mem _ j)
theorem RQ.an1{kids}:∀ {l:List bU} {p:cJ×List bU},RQ P T p.1->(∀x∈l,P x)->(∀x∈p.2,P x)->RQ P T (l.foldl (lJ kids) p).1/\∀x∈(l.foldl (lJ kids) p).2,P x
 | [],_,h,_,h2=>⟨h,h2⟩
 | x :: l,p,h,hl,h2=>by
  have z:=hl x (List.mem_cons_self ..);have t:∀y∈p.2++[x],P y:=λy j=>by rw[r7,List.mem_singleton]at j;exact j.elim (h2 y) λe=>e▸z
  refine RQ.an1 (l:=l) (p:=lJ kids p x) ?_ (λy j=>hl y (List.mem_cons_of_mem _ j)) ?_;all_goals
   unfold lJ
   split
   .split
    .first|exact h.bq z|exact h2
    first|exact t|exact h
   .split
    .split
     .first|exact h.abort _|exact h2
     first|exact t|exact h
    first|exact t|exact h
theorem JB.cR(h:JB P T aT A B)(z:∀t,T t->t.eC=aA->P t.e){x}(j:x∈nr B):P x:=by
 rcases ag3 j with j|⟨m,hm,j⟩;rcases XD j with j|j;cases j;obtain⟨t,y,rfl⟩:=List.mem_map.1 (oW j);have:=List.mem_filter.1 y;exact z t (h.tx t this.1) this.2;obtain⟨k,-,rfl⟩:=List.mem_map.1 hm;unfold kZ at j;cases hf:B.dm.find? λp=>decide (p.1=k)with
 | none=>rw[hf]at j;cases j
 | some p=>rw[hf]at j;exact h.dm p (List.mem_of_find?_eq_some hf) x j
theorem RQ.work(h:RQ P T B)(z:∀t,T t->t.eC=aA->P t.e):RQ P T (iL B):=by
 unfold iL;split;have A:=h.lists (l:=(qH B.st B.dy (nr B)).2) λx j=>by rcases R5.2 j with j|j;cases j;exact h.1.cR z j
 obtain⟨y,C⟩:=RQ.an1 (kids:=fK B) (l:=(qH B.st B.dy (nr B)).1) (p:=(Cb B,[])) A (λx j=>by
  rcases R5.1 j with j|j;exact h.1.dy x j;exact h.1.cR z j) (λx j=>by cases j)
 exact⟨⟨y.1.tx,y.1.dm,C,y.1.bq,y.1.ab,y.1.cA⟩,y.2⟩;exact h
theorem JB.rep(h:JB P T aT A B) k{m:ig}(hm:∀x∈m.cR,P x):JB P T aT A { B with dm:=oT B.dm k m } :=⟨h.tx,λp j=>by
 rcases agj j with j|rfl;exact h.dm p j;exact hm,h.dy,h.bq,h.ab,h.cA⟩
theorem Yj:∀ {l:List bU} {B:cJ} {n:Nat},JB P T aT A B->(∀x∈l,aT (bE x))->JB P T aT A (lC B n l)
 | [],_,_,h,_=>h
 | x :: l,B,n,h,hl=>by
  have z:=hl x (List.mem_cons_self ..);have j:∀y∈l,aT (bE y):=λy t=>hl y (List.mem_cons_of_mem _ t)
  unfold lC;split;split;exact Yj (h.note yh (λ_=>z) yh) j;exact h;exact Yj h j
theorem JB.forget(h:JB P T aT A B) a:JB P T aT A (jC B a):=by unfold jC;split;exact h.note yi yi yi;exact h
theorem ah7:∀ {l:List bY} {B:cJ},JB P T aT A B->(∀a∈l,A a)->JB P T aT A (l.foldl lU B)
 | [],_,h,_=>h
 | a :: l,B,h,hl=>by
  refine ah7 (l:=l) ?_ λy z=>hl y (List.mem_cons_of_mem _ z)
  unfold lU;split;exact h;exact JB.forget (B:={ B with cA:=B.cA++[a],bI:=gU B.bI a }) ⟨λt C=>h.tx t (Xq C),h.dm,h.dy,h.bq,h.ab,λb j=>by
   rw[r7,List.mem_singleton]at j;exact j.elim (h.cA b) λe=>e▸hl a (List.mem_cons_self ..)⟩ a
theorem agu:∀ {l:List bY} {B:cJ},JB P T aT A B->JB P T aT A (l.foldl jC B)
 | [],_,h=>h
 | a :: l,_,h=>agu (l:=l) (h.forget a)
theorem ah8:∀ {l:List bU} {p:cJ×List bY},JB P T aT A p.1->JB P T aT A (l.foldl km p).1
 | [],_,h=>h
 | x :: l,p,h=>by refine ah8 (l:=l) ?_;unfold km;split;exact h.note BX BX BX;exact h
theorem JB.aFB(h:JB P T aT A B){m:ig}(t:∀x∈m.eM,aT (bE x))(y:∀a∈m.fc,A a):JB P T aT A (sY B m):=by
 have j:=ah8 (l:=(pG (m.fQ.foldl jC (m.fc.foldl lU (lC B m.got m.eM))).st (nR (m.fQ.foldl jC (m.fc.foldl lU (lC B m.got m.eM))) m.gq)).1)
  (p:=(_,wi (m.fQ.foldl jC (m.fc.foldl lU (lC B m.got m.eM))) m.gq++(pG (m.fQ.foldl jC (m.fc.foldl lU (lC B m.got m.eM))).st (nR (m.fQ.foldl jC (m.fc.foldl lU (lC B m.got m.eM))) m.gq)).2)) (agu (l:=m.fQ) (ah7 (Yj (n:=m.got) h t) y))
 exact⟨j.tx,j.dm,j.dy,j.bq,j.ab,j.cA⟩
def Ds(P:bU->Prop)(j A:bY->Prop)(b:List UInt8):Prop:=∀m,tj b=I m->(m.bA=1->∀x∈m.cR,P x)/\(m.bA=2->(∀x∈m.eM,j (bE x))/\∀a∈m.fc,A a)
theorem aCj l cs x:bE (lX l cs x)=bE x:=by grind [bE,lX]
theorem ahr{ab a}:∀ {l:List bU} {o:List bY},a∈l.foldl (rz ab) o->a∈o\/a∈ab
 | [],_,h=>aI h
 | x :: l,o,h=>by
  rcases ahr (l:=l) h with h|h
  .unfold rz at h;split at h
   .next hc =>
    rw[r7,List.mem_singleton]at h;refine h.imp id λe=>?_
    have:=hc.2.1;simp only[fJ,List.any_eq_true,decide_eq_true_eq]at this;obtain⟨b,t,j⟩:=this;rw[e,<- j];exact t
   exact aI h
  exact aJ h
theorem JB.outs(h:JB P T aT A B)(H:dq B)(O:mV B)(N:∀t,T t->t.eC=aA->P t.e):∀x∈xv B,Ds P aT A x.2:=by
 have key:∀k m,pU m->((m.bA=1->∀x∈m.cR,P x)/\(m.bA=2->(∀x∈m.eM,aT (bE x))/\∀a∈m.fc,A a))->∀x∈xu k m,Ds P aT A x.2:=λk m Q hm x j=>by
  unfold xu at j;split at j
  .next ho =>
   rw[List.mem_singleton]at j;subst j;intro S R;grind [aAh]
  cases j
 intro x j;rw[xv,r7]at j;rcases j with j|j;unfold vW at j;split at j;cases j;exact key _ _ (Xb H O) ⟨λ_ y C=>h.cR N C,λe=>by grind [E6]⟩ x j;unfold vX at j;obtain⟨k,-,j⟩:=List.mem_flatMap.1 j;refine key _ _ (WR H k) ⟨λe=>by grind [ya],λ_=>⟨λy C=>?_,λa z=>?_⟩⟩ x j;obtain⟨p,M,rfl⟩:=List.mem_map.1 C;rw[aCj];have:=(List.mem_zipIdx M).2.2;exact h.bq _ (List.mem_of_mem_drop (oW (this▸dJ _)));rcases ahr z with z|z;cases z;rw[DN,r7]at z;exact z.elim (h.ab a) (h.cA a)
end
theorem ay4{Q:cT->Nat->Prop}(hm:∀ {O k j},Q O k->k<=j->Q O j)(C:∀ {O k} n,Q O k->Q (oZ O n).1 (k+1))(A:∀ {O k} a b,Q O k->k<=50000->Q (nH O a b).1 (k+1))(z:∀ {O k},Q O k->Z O.par<=6/\∀a b,pR O a b<=8){O k}(h:Q O k)(hk:k+588<=50000):Q (zP O) (k+588):=by
 have drain:∀(j:Nat) {O k} (a b:Int),Q O k->k+j<=50000->Q (Fh a b j O) (k+j):=by
  intro j;induction j with
  | zero=>intro O k a b h _;exact h
  | succ j y => intro O k a b h hk;rw[show k+(j+1)=k+1+j by omega];exact y a b (A a b h aZ) aZ
 have TN:∀(n:Nat) (l:List Nat) {O k},Q O k->k+8*Z l<=50000->Q (l.foldl (λO (t:Nat)=>if t=n then O else Fh n t (pR O n t) O) O) (k+8*Z l):=by
  intro n l;induction l with
  | nil=>intro O k h _;exact h
  | cons t l y => intro O k h hk;simp only[gH,List.foldl_cons]at hk|-;rw[show k+8*(Z l+1)=k+8+8*Z l by omega];refine y ?_ aZ;split;exact hm h aZ;have:=(z h).2 n t;exact hm (drain _ n t h aZ) aZ
 have turn:∀ {O k} (n:Nat),Q O k->k+49<=50000->Q (xA O n) (k+49):=by intro O k n h hk;have B:=(z h).1;unfold xA;split;exact hm (TN n (List.range (Z O.par)) (C n h) amZ) amZ;exact hm h aZ
 have turns:∀(l:List Nat) {O k},Q O k->k+49*Z l<=50000->Q (l.foldl xA O) (k+49*Z l):=by
  intro l;induction l with
  | nil=>intro O k h _;exact h
  | cons t l y => intro O k h hk;simp only[gH,List.foldl_cons]at hk|-;rw[show k+49*(Z l+1)=k+49+49*Z l by omega];exact y (turn t h aZ) aZ
 have B:=(z h).1;have e:Z ((List.range (Z O.par)).reverse++List.range (Z O.par))<=12:=cN;exact hm (turns _ h aZ) aZ
structure il where
 id:bY
 cl:Int
 es:List (List eD)
 eC:Bool
 gone:Bool
def wU(l:List il)(x:bU):Prop:=x.bA=1->∃d∈l,d.id=bE x/\d.eC=aA/\d.gone=az/\d.cl=x.cl/\d.es=x.es
def zA(l:List il)(n:Nat)(t:eU):Prop:=t.e.br=n/\(t.e.bA=1->∃d∈l,d.id=bE t.e/\d.eC=t.eC/\d.gone=az/\d.cl=t.e.cl/\d.es=t.e.es)
theorem zA.cR{l n t}(h:zA l n t)(y:t.eC=aA):wU l t.e:=λj=>by obtain⟨d,B,z,C,A⟩:=h.2 j;exact⟨d,B,z,C.trans y,A⟩
def mW(x:zx):eT:=match x.up with|some B=>B.st|none=>vL x.dk
def r0(O:cT):eT:=((O.eV[0]?).map mW).getD eZ
def mM(s:eT)(a:bY):Prop:=dM s.bq a=aA
def gM(s:eT)(a:bY):Prop:=a∈s.ab
def FrJ(l:List il)(n:Nat)(life calls:Nat):Prop:=∀d∈l,d.id.1=(n:Int)->d.id.2.1<life\/d.id.2.1=life/\d.id.2.2<=calls
def wV(l:List il)(j A:bY->Prop)(n:Nat)(B:cJ):Prop:=JB (wU l) (zA l n) j A B/\(n=0->RB (wU l) B.st/\B.cA=[])/\FrJ l n B.st.life B.calls
structure Jv(l:List il)(aT A:bY->Prop)(n:Nat)(x:zx):Prop where
 up:∀B,x.up=I B->wV l aT A n B
 down:x.up=U->(∀e∈(vL x.dk).bq,aT (bE e))/\(∀a∈(vL x.dk).ab,A a)/\(n=0->RB (wU l) (vL x.dk))/\∀d∈l,d.id.1=(n:Int)->d.id.2.1<=(vL x.dk).life
structure JG(l:List il)(aT A:bY->Prop)(O:cT):Prop where
 eV:∀(n:Nat) x,O.eV[n]?=I x->Jv l aT A n x
 dV:∀q∈O.dV,∀b∈q.2,Ds (wU l) aT A b
 sJ:(l.map (·.id)).Nodup
def JO(l:List il)(O:cT):Prop:=JG l (mM (r0 O)) (gM (r0 O)) O
def JS(l:List il)(O j:cT):Prop:=JO l j/\∀a,gM (r0 O) a->gM (r0 j) a
section
variable {l:List il}{aT A L' A':bY->Prop}{n:Nat}{x y:zx}{B B':cJ}{O O':cT}{par bj:List Int}{k:Nat}{m:Int}
theorem Ds.mono{P b}(h:Ds P aT A b)(z:∀a,aT a->L' a)(hA:∀a,A a->A' a):Ds P L' A' b:=λm hm=>by obtain⟨y,j⟩:=h m hm;exact⟨y,λe=>⟨λx B=>z _ ((j e).1 x B),λa t=>hA _ ((j e).2 a t)⟩⟩
theorem Jv.mono(h:Jv l aT A n x)(j:∀a,aT a->L' a)(hA:∀a,A a->A' a):Jv l L' A' n x :=⟨λB e=>⟨(h.up B e).1.mono j hA,(h.up B e).2⟩,λe=>by
 obtain⟨C,z,H⟩:=h.down e;exact⟨λe t=>j _ (C e t),λa y=>hA _ (z a y),H⟩⟩
theorem JG.mono(h:JG l aT A O)(j:∀a,aT a->L' a)(hA:∀a,A a->A' a):JG l L' A' O :=
 ⟨λn x e=>(h.eV n x e).mono j hA,λq y b t=>(h.dV q y b t).mono j hA,h.sJ⟩
theorem JG.set(h:JG l aT A O)(t:Jv l aT A n x):JG l aT A (lf O n x):=by
 refine⟨λi y j=>?_,h.dV,h.sJ⟩;simp only[lf,Int.toNat_natCast,List.getElem?_set]at j;split at j
 .grind
 exact h.eV i y j
theorem am0(hn:n≠0):r0 (lf O n x)=r0 O:=by grind [r0,lf]
theorem anG(j:O.eV[0]?=I y):r0 (lf O ((0:Nat):Int) x)=mW x:=by grind [r0,lf,mW]
theorem Lo(j:O.eV[0]?=I y):r0 O=mW y:=by simp[r0,j]
theorem aA2(j:oA O):qI O 0=r0 O:=by
 have:=(rr j.tr).1;have y:0<Z O.eV:=by have:=j.ln;omega
 have t:mi O 0=true:=by grind [mi,iW]
 unfold qI eK;rw[bV t,bV t,r0,Int.toNat_zero,aE y];cases hx:O.eV[0]with
 | mk u d=>cases u <;> rfl
theorem JO.set(h:JO l O)(t:O.eV[n]?=I y)(hg:n=0->(∀a,mM (mW y) a->mM (mW x) a)/\∀a,gM (mW y) a->gM (mW x) a)(z:Jv l (mM (if n=0 then mW x else r0 O)) (gM (if n=0 then mW x else r0 O)) n x):JS l O (lf O n x):=by by_cases B:n=0;subst B;obtain⟨A,j⟩:=hg rfl;rw[bV rfl]at z;unfold JS JO at *;rw[anG t];rw[Lo t]at h|-;exact⟨(h.mono A j).set z,j⟩;grind [JS,JO,am0,JG.set]
theorem JO.aa7(h:JO l O){N:List kI}(j:∀q∈N,∀b∈q.2,Ds (wU l) (mM (r0 O)) (gM (r0 O)) b):JS l O { O with dV:=N }:=⟨⟨h.eV,j,h.sJ⟩,λ_ h=>h⟩
theorem JS.rf(h:JO l O):JS l O O:=⟨h,λ_ h=>h⟩
theorem JS.tr{j}(h:JS l O O')(k:JS l O' j):JS l O j:=⟨k.1,λa t=>k.2 a (h.2 a t)⟩
theorem aA3(s:eT):∀x∈s.bq,mM s (bE x):=λx j=>by simp only[mM,dM,List.any_eq_true,decide_eq_true_eq];exact⟨x,j,rfl⟩
theorem ix.mM(h:ix B B') a(j:mM B.st a):Go.Proofs.YtcjlnlcpodcldaaGreat.mM B'.st a:=by simp only[Go.Proofs.YtcjlnlcpodcldaaGreat.mM,dM,List.any_eq_true]at j|-;obtain⟨x,t,e⟩:=j;exact⟨x,h.bq.subset t,e⟩
theorem wV.root(h:RQ (wU l) (zA l 0) B)(t:B.cA=[])(y:FrJ l 0 B.st.life B.calls):wV l (mM B.st) (gM B.st) 0 B :=
 ⟨⟨h.1.tx,h.1.dm,h.1.dy,aA3 _,λ_ h=>h,λa j=>by rw[t]at j;cases j⟩,λ_=>⟨h.2,t⟩,y⟩
theorem wV.rq(h:wV l aT A 0 B):RQ (wU l) (zA l 0) B:=⟨h.1.mono (λ_ _=>trivial) λ_ _=>trivial,(h.2.1 rfl).1⟩
theorem wV.work{R:eT}(h:wV l (mM R) (gM R) n B)(hm:B.me=n)(z:dq B):wV l (mM (if n=0 then (iL B).st else R)) (gM (if n=0 then (iL B).st else R)) n (iL B):=by by_cases y:n=0;subst y;have j:=KK z;rw[bV rfl];exact .root (h.rq.work λt=>zA.cR) (j.cA.trans (h.2.1 rfl).2) (by rw[j.life,j.calls];exact h.2.2);grind [mM,gM,iL,ot]
theorem wV.handle{R:eT}(h:wV l (mM R) (gM R) n B)(Q:n=0->B.st=R)(hm:B.me=n)(z:ic B)(C:jQ B) t{b}(hb:Ds (wU l) (mM R) (gM R) b) :wV l (mM (if n=0 then (jc B t b).1.st else R)) (gM (if n=0 then (jc B t b).1.st else R)) n (jc B t b).1:=by
 have:wV l (mM (if n=0 then B.st else R)) (gM (if n=0 then B.st else R)) n B:=by grind
 obtain⟨X,j⟩:∃X,X=(jc B t b).1:=⟨_,rfl⟩;rw[<- j];unfold jc at j;split at j
 .split at j
  .grind
  next mm hd =>
  obtain⟨O,y⟩:=hb mm hd;split at j
  .next hc =>
   simp only[fI,decide_eq_true_eq]at hc;have H:dq { B with dm:=oT B.dm t mm }:=NG z.todq (ND hd).2 (NM hd);rw[j];exact wV.work (B:={ B with dm:=oT B.dm t mm }) ⟨h.1.rep t (O hc.2),h.2⟩ hm H
  split at j
  .next hc =>
   simp only[fI,Bool.not_eq_true',decide_eq_true_eq]at hc;have A:n≠0:=λe=>by grind [mM,gM,jc,ot]
   rw[bQ A,j];have N:=h.1.aFB (y hc.2).1 (y hc.2).2;have M:=(ah0 C mm).1.life;have P:=(afi (c:=B.calls) ⟨rfl,z.tL⟩ mm).1;exact⟨N,λe=>absurd e A,by rw[M,P];exact h.2.2⟩
  grind
 grind
end
section
variable {l:List il}{aT A:bY->Prop}{n:Nat}{x y:zx}{B B':cJ}{O O':cT}{par bj:List Int}{k:Nat}{m:Int}{M:List UInt8->Prop}
def pd(M:List UInt8->Prop)(N:List kI):Prop:=∀q∈N,∀b∈q.2,M b
theorem pd.set{N:List kI}(h:pd M N){k l}(y:∀b∈l,M b):pd M (jW N k l):=λq j=>by unfold jW at j;obtain⟨p,t,rfl⟩:=List.mem_map.1 j;split;exact y;exact h p t
theorem pd.send{N:List kI}(h:pd M N){k b}(hb:M b):pd M (xw N k b):=by
 unfold xw;split
 .next l hl =>
  split;exact h.set λx j=>(List.mem_append.1 j).elim (h _ (zK hl) x) λe=>bL
  exact h
 exact h
theorem pd.sends n:∀(l:List (Int×List UInt8)) {N:List kI},pd M N->(∀x∈l,M x.2)->pd M (l.foldl (λN m=>xw N (n,m.1) m.2) N)
 | [],_,h,_=>h
 | x :: l,_,h,hl=>pd.sends n l (h.send (hl x (List.mem_cons_self ..))) λy j=>hl y (List.mem_cons_of_mem _ j)
theorem pd.drop{N k}(h:pd M N):pd M (sy N k).1:=by unfold sy;split;exact h;exact h;next m l hl=>exact h.set λx j=>h _ (zK hl) x (List.mem_cons_of_mem _ j)
theorem pd.turn{N k}(h:pd M N):pd M (s6 N k).1:=by unfold s6;split;exact h;exact h;next m l hl=>exact h.set λx j=>h _ (zK hl) x bL
theorem pd.twice{N k}(h:pd M N):pd M (sX N k).1:=by
 unfold sX;split;exact h;exact h;next m l hl =>
 split;exact h;exact h.set λx j=>h _ (zK hl) x bL
theorem JO.up(h:JO l O)(z:cU par bj O k)(t:eK O m=I B):∃n:Nat,m=(n:Int)/\∃y,O.eV[n]?=I y/\y.up=I B/\wV l (mM (r0 O)) (gM (r0 O)) n B/\B.me=n/\ic B/\mD B k/\(n=0->B.st=r0 O):=by obtain⟨n,rfl,-,y,j,e⟩:=Fj t;obtain⟨H,A,-,C⟩:=z.up t;refine⟨n,rfl,y,j,e,(h.eV n y j).up B e,C.1,H,A,?_⟩;rintro rfl;rw[Lo j,mW,e]
theorem JO.put(h:JO l O)(t:O.eV[n]?=I y)(e:y.up=I B)(hg:ix B B')(z:wV l (mM (if n=0 then B'.st else r0 O)) (gM (if n=0 then B'.st else r0 O)) n B'):JS l O (oB O n B') :=h.set t (λ_=>by
 have:mW y=B.st:=by rw[mW,e]
 rw[this];exact⟨hg.mM,λa j=>hg.ab.subset j⟩) ⟨λC e=>by injection e with e;exact e▸z,λe=>uC⟩
theorem JO.tick(h:JO l O)(M:cU par bj O k) m:JS l O (oZ O m).1:=by
 unfold oZ;split
 .split;exact .rf h;next B hu =>
  obtain⟨n,rfl,y,C,e,P,hm,z,H,Q⟩:=h.up M hu;have A:=P.work hm z.todq;have j:=h.put C e (Yi H.inv).1 A;have N:r0 (oB O n (iL B))=if n=0 then (iL B).st else r0 O:=by
   split
   .next e0=>subst e0;exact anG C
   next e0=>exact am0 e0
  refine j.tr (j.1.aa7 (pd.sends _ _ j.1.dV ?_));rw[N];exact A.1.outs z.work.todq (NF z.todq H.fit) λt=>zA.cR
 exact .rf h
theorem JO.Fc(h:JO l O)(t:cU par bj O k) a b:JS l O (nH O a b).1:=by
 unfold nH;split;exact .rf h;exact .rf h;next c r hl =>
 have A:=h.dV _ (zK hl);have j:JS l O { O with dV:=jW O.dV (a,b) r }:=h.aa7 (pd.set h.dV λx R=>A x (List.mem_cons_of_mem _ R));have z:=t.few _ (zK hl);simp only[gH]at z;have M:cU par bj { O with dV:=jW O.dV (a,b) r } k:=t.dV (KX _ _ _) (KY t.few aZ);dsimp only;split;exact j;next B hu =>
 obtain⟨n,rfl,y,H,e,N,hm,Q,C,z⟩:=j.1.up M hu;exact j.tr (j.1.put H e (Xn C.inv a c).1 (N.handle z hm Q C.inv a (A c (List.mem_cons_self ..))))
theorem JO.round(h:JO l O)(y:cU par bj O k)(t:Z par<=6)(hk:k+588<=50000):JS l O (zP O) :=
 (ay4 (Q:=λj k=>cU par bj j k/\JS l O j) (λh z=>⟨h.1.mono z,h.2⟩) (λn h=>⟨h.1.tick n,h.2.tr (h.2.1.tick h.1 n)⟩)
  (λa b h hk=>⟨h.1.Fc hk a b,h.2.tr (h.2.1.Fc h.1 a b)⟩) (λh=>⟨by rw[h.1.wj];exact t,h.1.long⟩) ⟨y,.rf h⟩ hk).2
theorem JO.Ln(h:JO l O)(A:cU par bj O k) m:JS l O (xi O m).1:=by
 unfold xi;split
 .split;exact .rf h;next B hu =>
  obtain⟨n,rfl,y,H,e,t,hm,M,Q,R⟩:=h.up A hu;have j:vL B.dk=B.st:=DQ M.dk;have:mW ⟨U,B.dk⟩=B.st:=j;have:mW y=B.st:=by rw[mW,e]
  refine h.set H (λ_=>bL) ⟨λC e=>uC,λ_=>?_⟩;have z:(if n=0 then mW ⟨U,B.dk⟩else r0 O)=r0 O:=by grind
  rw[z];show (∀e∈(vL B.dk).bq,_)/\(∀a∈(vL B.dk).ab,_)/\(n=0->RB (wU l) (vL B.dk))/\∀d∈l,d.id.1=(n:Int)->d.id.2.1<=(vL B.dk).life;rw[j];exact⟨t.1.bq,t.1.ab,λe=>(t.2.1 e).1,λd j e=>by rcases t.2.2 d j e with h|h <;> omega⟩
 exact .rf h
theorem JO.OH(h:JO l O)(Q:cU par bj O k)(hk:k<=50000) m:JS l O (xb O m).1:=by
 unfold xb;split
 .next hi =>
  split;exact .rf h;next hu =>
  obtain⟨n,rfl,V,d,s,hy,S,W,-⟩:=Q.down hi GA;have j:=DQ S;obtain⟨z,B,A,H⟩:=(h.eV n _ hy).down rfl;simp only[j]at z B A H;unfold s5;simp only[Int.toNat_natCast,hy,Option.map_some,Option.getD_some,j];split;have hyn:mW (⟨U,d⟩:zx)=s:=j;refine h.set hy (λ_=>by rw[hyn];exact⟨λ_ h=>h,λ_ h=>h⟩) ⟨λC e=>?_,λe=>uC⟩;injection e with e;subst e;have R:∀a,mM (r0 O) a->mM (if n=0 then eN s else r0 O) a:=λa ha=>by exact am1
  have hA:∀a,gM (r0 O) a->gM (if n=0 then eN s else r0 O) a:=λa ha=>by exact am1
  refine⟨⟨λt T=>(by cases T),λp N=>(by cases N),λx y=>(by cases y),λx y=>R _ (z x y),λa ha=>hA _ (B a ha),λa ha=>by cases ha⟩,λe=>⟨A e,rfl⟩,λd M e=>aI ?_⟩;show d.id.2.1<(s.life+1)%18446744073709551616;have:=H d M e;omega;exact .rf h
 exact .rf h
theorem JO.Pz(h:JO l O) c:JS l O (jU O c).1:=by
 have key:∀cur got,JS l O { O with cur:=cur,got:=got }:=λ_ _=>⟨⟨h.eV,h.dV,h.sJ⟩,λ_ h=>h⟩
 unfold jU;split;split;exact .rf h;dsimp only;split
 .grind
 exact .rf h;exact .rf h
theorem JO.abW(h:JO l O){f:List kI->Int×Int->List kI×Int}(j:∀ {M N k},pd M N->pd M (f N k).1) a b:JS l O (mE O f a b).1:=h.aa7 (j h.dV)
end
section
variable {l l':List il}{aT A:bY->Prop}{n:Nat}{x y:zx}{B B':cJ}{O O':cT}{par bj:List Int}{k:Nat}{m:Int}{i:bY}
def findD(l:List il)(i:bY):Nat:=l.findIdx λd=>decide (d.id=i)
theorem ah9(C:(l.map (·.id)).Nodup){d}(y:d∈l)(e:d.id=i):findD l i<Z l/\l[findD l i]?=I d:=by
 have t:l.findIdx (λd=>decide (d.id=i))<Z l:=List.findIdx_lt_length_of_exists ⟨d,y,bL⟩;refine⟨t,?_⟩;have B:decide ((l[l.findIdx λd=>decide (d.id=i)]'t).id=i)=true:=List.findIdx_getElem (w:=t);rw[decide_eq_true_eq]at B;obtain⟨j,z,rfl⟩:=List.mem_iff_getElem.1 y;have A:(l.map (·.id))[l.findIdx λd=>decide (d.id=i)]'(by rw[List.length_map];exact t)=(l.map (·.id))[j]'(by rw[List.length_map];exact z):=by grind
 have H:findD l i=j:=(List.getElem_inj C).1 A;rw[H,aE z]
theorem anH{f:il->il}{j:Nat}{d e}(z:l[j]?=I d)(t:e∈l)(y:e≠d):e∈l.modify j f:=by
 obtain⟨a,A⟩:=List.mem_iff_getElem?.1 t;have:j≠a:=λh=>y bL
 exact List.mem_iff_getElem?.2 ⟨a,bL⟩
theorem aDp{f:il->il}{j:Nat}{d}(t:l[j]?=I d):f d∈l.modify j f:=List.mem_iff_getElem?.2 ⟨j,by rw[List.getElem?_modify,t];simp⟩
theorem aaJ{f:il->il}(t:∀d,(f d).id=d.id)(j:Nat):(l.modify j f).map (·.id)=l.map (·.id):=aeG f t l j
theorem Ds.FB{P j:bU->Prop}{b}(h:Ds P aT A b)(t:∀x,P x->j x):Ds j aT A b:=λm hm=>by obtain⟨z,y⟩:=h m hm;exact⟨λe x B=>t x (z e x B),y⟩
theorem JB.FB{P H:bU->Prop}{T z:eU->Prop}(h:JB P T aT A B)(y:∀x,P x->H x)(N:∀t∈B.bI,T t->z t):JB H z aT A B :=
 ⟨λt C=>N t C (h.tx t C),λp M x j=>y x (h.dm p M x j),λx j=>y x (h.dy x j),h.bq,h.ab,h.cA⟩
theorem RB.FB{P j:bU->Prop}{s}(h:RB P s)(y:∀x,P x->j x):RB j s:=λx t=>y x (h x t)
theorem JO.an2(h:JO l O)(hy:O.eV[n]?=I y)(hr:mW x=mW y)(H:∀z,wU l z->wU l' z)(T:∀(j:Nat) t,j≠n->zA l j t->zA l' j t)(Y:∀d∈l',d.id.1=(n:Int)\/∃e∈l,e.id=d.id)(hu:(l'.map (·.id)).Nodup)(hx:Jv l' (mM (r0 O)) (gM (r0 O)) n x):JO l' (lf O n x)/\∀a,gM (r0 O) a->gM (r0 (lf O n x)) a:=by
 have e:r0 (lf O n x)=r0 O:=by grind [mW,mM,r0,gM,lf]
 unfold JO;rw[e];refine⟨⟨λi z hz=>?_,λq W b S=>(h.dV q W b S).FB H,hu⟩,λ_ h=>h⟩;simp only[lf,Int.toNat_natCast,List.getElem?_set]at hz;split at hz
 .grind
 next hne =>
 have R:i≠n:=λe=>hne e.symm
 have hz:=h.eV i z hz;have V:∀d∈l',d.id.1=(i:Int)->∃e∈l,e.id=d.id:=λd A e=>(Y d A).resolve_left λe2=>R aZ
 refine⟨λB e=>?_,λe=>?_⟩;obtain⟨M,C,N⟩:=hz.up B e;refine⟨M.FB H λt _=>T i t R,λe=>⟨(C e).1.FB H,(C e).2⟩,λd A e=>?_⟩;obtain⟨d0,Q,X⟩:=V d A e;rw[<- X]at e|-;exact N d0 Q e;obtain⟨M,C,N,Q⟩:=hz.down e;refine⟨M,C,λe=>(N e).FB H,λd A e=>?_⟩;grind
theorem JO.same(h:JO l O)(j:cU par bj O k)(z:eK O m=I B):JS l O (oB O m B):=by obtain⟨n,rfl,y,t,e,H,hm,M,A,C⟩:=h.up j z;refine h.put t e (ix.rf B) ?_;grind
theorem JO.change(h:JO l O)(hI:cU par bj O k)(hu:eK O m=I B)(hm:i.1=m){t}(X:t∈B.bI)(W:bE t.e=i)(Wl:t.eC=az)(f:il->il)(N:∀d,(f d).id=d.id){Q}(hT:∀s∈Q,s∈B.bI/\bE s.e≠i\/s.e.br=t.e.br/\bE s.e=i/\∀d:il,d.eC=t.eC/\d.gone=az/\d.cl=t.e.cl/\d.es=t.e.es->(f d).eC=s.eC/\(f d).gone=az/\(f d).cl=s.e.cl/\(f d).es=s.e.es) :findD l i<Z l/\JO (l.modify (findD l i) f) (oB O m { B with bI:=Q })/\∀a,gM (r0 O) a->gM (r0 (oB O m { B with bI:=Q })) a:=by
 obtain⟨n,rfl,y,hy,e,A,AV,hG,hR,h0⟩:=h.up hI hu;obtain⟨qj,hd⟩:=A.1.tx t X;obtain⟨d,ER,T,hda,hdg,Gm,mH⟩:=hd (hG.tL t X Wl);obtain⟨hlt,hat⟩:=ah9 h.sJ ER (T.trans W);refine⟨hlt,?_⟩;have hne:∀e:il,e.id≠i->e≠d:=λe he h=>he (by rw[h];exact T.trans W)
 have Y:∀(j:Nat) s,bE s.e≠i->zA l j s->zA (l.modify (findD l i) f) j s:=λj s S M=>⟨M.1,λH=>by
  obtain⟨e,h1,h2,h3⟩:=M.2 H;exact⟨e,anH hat h1 (hne e (by rw[h2];exact S)),h2,h3⟩⟩
 refine h.an2 hy (by rw[mW,mW,e]) (λz hz H=>?_) (λj s hj M=>Y j s (λe=>hj ?_) M) (λR V=>aJ ?_) (by rw[aaJ N];exact h.sJ) ⟨λC e=>?_,λe=>uC⟩;obtain⟨e,h1,h2,h3,h4⟩:=hz H;exact Tx;have h1:=M.1;have h2:s.e.br=i.1:=by rw[<- e];rfl
 omega;have:R.id∈(l.modify (findD l i) f).map (·.id):=List.mem_map_of_mem V;rw[aaJ N]at this;obtain⟨e,h1,h2⟩:=List.mem_map.1 this;exact⟨e,h1,h2⟩;injection e with e;subst e;refine⟨⟨λs S=>?_,λp hp x M H=>?_,λx M H=>?_,A.1.bq,A.1.ab,A.1.cA⟩,λe=>⟨(A.2.1 e).1.FB λz hz H=>?_,(A.2.1 e).2⟩,λR V e=>?_⟩;rcases hT s S with ⟨h1,h2⟩|⟨h1,h2,h3⟩;exact Y n s h2 (A.1.tx s h1);exact⟨h1.trans qj,λ_=>⟨f d,aDp hat,(N d).trans (T.trans (W.trans h2.symm)),h3 d ⟨hda,hdg,Gm,mH⟩⟩⟩;obtain⟨e,h1,h2,h3,h4⟩:=A.1.dm p hp x M H;exact Tx;obtain⟨e,h1,h2,h3,h4⟩:=A.1.dy x M H;exact Tx;obtain⟨e,h1,h2,h3,h4⟩:=hz H;exact Tx;have:R.id∈(l.modify (findD l i) f).map (·.id):=List.mem_map_of_mem V;rw[aaJ N]at this;obtain⟨e2,h1,h2⟩:=List.mem_map.1 this;rw[<- h2]at e|-;exact A.2.2 e2 h1 e
theorem avD(O:cT)(c:Int)(i:bY)(g:List eU->List eU×Int):((eS O c i g).2.2≠0/\((eS O c i g).1=O\/∃m B,eK O m=I B/\(eS O c i g).1=oB O m B))\/∃m B,eK O m=I B/\i.1=m/\(g B.bI).2=0/\(eS O c i g).1=oB O m { B with bI:=(g B.bI).1 }/\(eS O c i g).2.2=0:=by grind [eS,eK,oB,vK,pQ,pP,gg]
theorem JO.keep(h:JO l O)(z:cU par bj O k)(c:Int)(g:List eU->List eU×Int)(f:il->il)(C:∀d,(f d).id=d.id)(hg:∀B:cJ,ic B->(g B.bI).2=0->∃t∈B.bI,bE t.e=i/\t.eC=az/\∀s∈(g B.bI).1,s∈B.bI/\bE s.e≠i\/s.e.br=t.e.br/\bE s.e=i/\∀d:il,d.eC=t.eC/\d.gone=az/\d.cl=t.e.cl/\d.es=t.e.es->(f d).eC=s.eC/\(f d).gone=az/\(f d).cl=s.e.cl/\(f d).es=s.e.es) :((eS O c i g).2.2=0->findD l i<Z l)/\JO (if (eS O c i g).2.2=0 then l.modify (findD l i) f else l) (eS O c i g).1/\∀a,gM (r0 O) a->gM (r0 (eS O c i g).1) a:=by
 rcases avD O c i g with ⟨j,A⟩|⟨m,B,y,R,Q,j,A⟩;rw[bQ j];refine⟨λe=>absurd e j,?_⟩;rcases A with e|⟨m,B,y,e⟩
 .grind
 rw[e];exact h.same z y;rw[bV A,j];obtain⟨t,P,H,N,M⟩:=hg B (z.up y).1 Q;obtain⟨a,b⟩:=h.change z y R P H N f C M;grind
end
section
variable {l l':List il}{n:Nat}{x y:zx}{B B':cJ}{O O':cT}{par bj:List Int}{k:Nat}{m:Int}{i:bY}
theorem ahs{T:List eU}(B:lH T){j:Nat}{t u}(A:T[j]?=I t){s}(z:s∈T.set j u):s∈T/\bE s.e≠bE t.e\/s=u:=by
 obtain⟨a,y⟩:=List.mem_iff_getElem?.1 z;rw[List.getElem?_set]at y;split at y
 .grind
 next hne=>exact aI ⟨List.mem_iff_getElem?.2 ⟨a,y⟩,λe=>hne (B.sJ j a t s A y e.symm)⟩
theorem afT{T:List eU}(A:lH T){j:Nat}{t}(z:T[j]?=I t){s}(B:s∈T.eraseIdx j):s∈T/\bE s.e≠bE t.e:=by obtain⟨a,y⟩:=List.mem_iff_getElem?.1 B;rw[List.getElem?_eraseIdx]at y;split at y;exact⟨List.mem_iff_getElem?.2 ⟨a,y⟩,λe=>by have:=A.sJ j a t s z y e.symm;omega⟩;exact⟨List.mem_iff_getElem?.2 ⟨a+1,y⟩,λe=>by have:=A.sJ j (a+1) t s z y e.symm;omega⟩
theorem JO.Fb(h:JO l O)(H:cU par bj O k)(c:Int)(e:List eD):((eS O c i λl=>ij l i e).2.2=0->findD l i<Z l)/\JO (if (eS O c i λl=>ij l i e).2.2=0 then l.modify (findD l i) λd=>{ d with es:=d.es++[e] }else l) (eS O c i λl=>ij l i e).1/\∀a,gM (r0 O) a->gM (r0 (eS O c i λl=>ij l i e).1) a:=by
 refine h.keep H c _ _ (λ_=>rfl) λB P y=>?_
 dsimp only at y|-;unfold ij at y|-;cases ho:sf B.bI i with
 | none=>rw[ho]at y;cases y
 | some j =>
  obtain⟨t,C,A,M,-⟩:=IA ho;rw[ho]at y;simp only[C]at y|-;have hm:=List.mem_iff_getElem?.2 ⟨j,C⟩;split at y;cases y;split at y;cases y;split at y;cases y;next q1 q2 q3 =>
  rw[bQ q1,bQ q2,bQ q3];refine⟨t,hm,A,M,λs N=>?_⟩;rcases ahs P.tx C N with ⟨a,b⟩|rfl;exact aI ⟨a,λe=>b (e.trans A.symm)⟩;exact aJ ⟨rfl,A,λd z=>⟨z.1,z.2.1,z.2.2.1,by rw[z.2.2.2];rfl⟩⟩
theorem JO.Fi(h:JO l O)(H:cU par bj O k)(c:Int):((eS O c i λl=>iK l i).2.2=0->findD l i<Z l)/\JO (if (eS O c i λl=>iK l i).2.2=0 then l.modify (findD l i) λd=>{ d with eC:=true }else l) (eS O c i λl=>iK l i).1/\∀a,gM (r0 O) a->gM (r0 (eS O c i λl=>iK l i).1) a:=by
 refine h.keep H c _ _ (λ_=>rfl) λB P y=>?_
 dsimp only at y|-;unfold iK at y|-;cases ho:sf B.bI i with
 | none=>rw[ho]at y;cases y
 | some j => obtain⟨t,A,z,N,-⟩:=IA ho;simp only[A];refine⟨t,List.mem_iff_getElem?.2 ⟨j,A⟩,z,N,λs M=>?_⟩;rcases ahs P.tx A M with ⟨a,b⟩|rfl;exact aI ⟨a,λe=>b (e.trans z.symm)⟩;exact aJ ⟨rfl,z,λd C=>⟨rfl,C.2⟩⟩
theorem JO.abort(h:JO l O)(M:cU par bj O k)(c:Int):((eS O c i λl=>jD l i).2.2=0->findD l i<Z l)/\JO (if (eS O c i λl=>jD l i).2.2=0 then l.modify (findD l i) λd=>{ d with gone:=true }else l) (eS O c i λl=>jD l i).1/\∀a,gM (r0 O) a->gM (r0 (eS O c i λl=>jD l i).1) a:=by
 refine h.keep M c _ _ (λ_=>rfl) λB H y=>?_
 dsimp only at y|-;unfold jD at y|-;cases ho:sf B.bI i with
 | none=>rw[ho]at y;cases y
 | some j => obtain⟨t,z,A,P,N⟩:=IA ho;simp only[Option.isSome_some,if_true,gU,N];exact⟨t,List.mem_iff_getElem?.2 ⟨j,z⟩,A,P,λs C=>aI ⟨(afT H.tx z C).1,λe=>(afT H.tx z C).2 (e.trans A.symm)⟩⟩
theorem JO.call(h:JO l O)(Y:cU par bj O k)(c:Int)(lay:cJ->List eU×Int)(t:cJ->eU)(ds:cJ->List il)(hl:∀B,(lay B).2=0->(lay B).1=B.bI++[t B])(hb:∀B,(t B).e.br=B.me)(ht:∀B,(t B).e.bA=1->∃d∈ds B,d.id=bE (t B).e/\d.eC=(t B).eC/\d.gone=az/\d.cl=(t B).e.cl/\d.es=(t B).e.es)(A:∀B,ds B=[]\/∃d,ds B=[d]/\d.id=mT B) :∀R,pQ O c (0,0,0) (λB=>jF B c (lay B))=R->R.2.2≠0/\JS l O R.1\/R.2.2=0/\∃B,R.2.1=mT B/\JO (l++ds B) R.1/\∀a,gM (r0 O) a->gM (r0 R.1) a:=by
 rintro R rfl;unfold pQ;split
 .split;exact aI ⟨bu,.rf h⟩;next B hu =>
  dsimp only;unfold jF;split
  .split
   .next h0 =>
    refine aJ ⟨rfl,B,rfl,?_⟩;obtain⟨n,hn,y,hy,e,S,AV,hG,hR,-⟩:=h.up Y hu;rw[hn,hl B h0];have hds:∀d∈ds B,d.id=mT B:=λd iB=>by grind
    have an3:∀ {z:bU} {b:Bool},(∃d∈l,d.id=bE z/\d.eC=b/\d.gone=az/\d.cl=z.cl/\d.es=z.es)->∃d∈l++ds B,d.id=bE z/\d.eC=b/\d.gone=az/\d.cl=z.cl/\d.es=z.es:=λ⟨d,X,V⟩=>⟨d,List.mem_append_left _ X,V⟩
    have W:∀z,wU l z->wU (l++ds B) z:=λz hz Q=>an3 (hz Q)
    have hX:∀(j:Nat) t,zA l j t->zA (l++ds B) j t:=λj t hx=>⟨hx.1,λQ=>an3 (hx.2 Q)⟩
    refine h.an2 hy (by grind [mW]) W (λj t _=>hX j t) (λd A=>?_) ?_ ⟨λC e=>?_,λe=>uC⟩
    .grind [bE,mT,pQ,jF,gM,r0]
    rcases A B with e|⟨d0,e,e2⟩;rw[e,List.append_nil];exact h.sJ;rw[e,List.map_append,List.map_singleton];refine List.nodup_append.2 ⟨h.sJ,bu,λa ha b hb T=>?_⟩;rw[List.mem_singleton]at hb;obtain⟨d,A,rfl⟩:=List.mem_map.1 ha;rw[hb,e2]at T;rcases S.2.2 d A (by rw[T];exact AV)with H|H;rw[T]at H;exact absurd H (Nat.lt_irrefl _);rw[T]at H;exact absurd H.2 (Nat.not_succ_le_self _);injection e with e;subst e;have N:=S.1.FB W λt _=>hX n t
    refine⟨⟨λs M=>?_,N.dm,N.dy,N.bq,N.ab,N.cA⟩,λe=>⟨(S.2.1 e).1.FB W,(S.2.1 e).2⟩,λd A e=>?_⟩;rcases List.mem_append.1 M with M|M;exact N.tx s M;rw[List.mem_singleton]at M;subst M;exact⟨(hb B).trans AV,λQ=>by
     obtain⟨d,X,V⟩:=ht B Q;exact⟨d,List.mem_append_right _ X,V⟩⟩
    rcases List.mem_append.1 A with A|A;rcases S.2.2 d A e with H|H;exact aI H;exact aJ ⟨H.1,Nat.le_succ_of_le H.2⟩;rw[hds d A];exact aJ ⟨rfl,bP _⟩
   next h0=>exact aI ⟨h0,h.same Y hu⟩
  exact aI ⟨bu,h.same Y hu⟩
 exact aI ⟨bu,.rf h⟩
theorem Yk{T:List eU}{t}(h:(uO T t).2=0):(uO T t).1=T++[t]:=by grind [uO]
theorem JO.begin(h:JO l O)(y:cU par bj O k) c:JO (if (lQ O c).2.2=0 then l++[⟨(lQ O c).2.1,c,[],az,az⟩]else l) (lQ O c).1/\∀a,gM (r0 O) a->gM (r0 (lQ O c).1) a:=by rcases h.call y c (λB=>zL B.bI (mT B) c) (λB=>⟨xD (mT B) c,az⟩) (λB=>[⟨mT B,c,[],az,az⟩]) (λB h=>Yk h) (λ_=>rfl) (λB _=>⟨_,List.mem_singleton_self _,rfl,rfl,rfl,rfl,rfl⟩) (λB=>aJ ⟨_,rfl,rfl⟩) (lQ O c) rfl with ⟨t,j⟩|⟨t,B,j,z⟩;rw[bQ t];exact j;grind
theorem JO.sub(h:JO l O)(y:cU par bj O k) c s f:JS l O (oC O c s f).1:=by rcases h.call y c (λB=>qN B.bI (jP B 2 c s f)) (λB=>⟨jP B 2 c s f,aA⟩) (λ_=>[]) (λB h=>Yk h) (λ_=>rfl) (λB h=>kP) (λB=>aI rfl) (oC O c s f) rfl with ⟨-,t⟩|⟨-,B,-,j⟩;exact t;rw[List.append_nil]at j;exact j
theorem JO.O4(h:JO l O)(y:cU par bj O k) c s:JS l O (uE O c s).1:=by rcases h.call y c (λB=>qN B.bI (jP B 3 c s [])) (λB=>⟨jP B 3 c s [],aA⟩) (λ_=>[]) (λB h=>Yk h) (λ_=>rfl) (λB h=>kP) (λB=>aI rfl) (uE O c s) rfl with ⟨-,t⟩|⟨-,B,-,j⟩;exact t;rw[List.append_nil]at j;exact j
theorem JO.new{room}:JO [] (mC par bj room):=by
 refine⟨λn x z=>?_,λq j b y=>?_,bu⟩;simp only[mC,List.getElem?_map,Option.map_eq_some_iff]at z;obtain⟨m,-,rfl⟩:=z;exact⟨λB e=>by
  injection e with e;subst e;exact⟨⟨λt h=>kP,λp h=>kP,λx h=>kP,λx h=>kP,λa h=>kP,λa h=>kP⟩,λ_=>⟨λx h=>kP,rfl⟩,λd h=>kP⟩,λe=>uC⟩
 have j:q∈I3 par:=j;rw[Xp par _ q j]at y;cases y
theorem JO.root(h:JO l O)(z:oA O):RB (wU l) (r0 O):=by
 have:=(rr z.tr).1;have A:0<Z O.eV:=by have:=z.ln;omega
 have t:=aE A;have j:=h.eV 0 _ t;rw[Lo t];generalize O.eV[0]=y at j|-;unfold mW;cases e:y.up with
 | none=>exact (j.down e).2.2.1 rfl
 | some B=>exact ((j.up B e).2.1 rfl).1
theorem JO.just(h:JO l O)(y:oA O){x}(z:x∈(r0 O).bq)(hk:x.bA=1):∃d,findD l (bE x)<Z l/\l[findD l (bE x)]?=I d/\d.eC=aA/\d.gone=az/\d.cl=x.cl/\d.es=x.es:=by obtain⟨d,t,j,C⟩:=h.root y x z hk;obtain⟨A,B⟩:=ah9 h.sJ t j;grind
theorem cU.dead(h:cU par bj O k){a}(j:gM (r0 O) a):dM (r0 O).bq a=false:=by
 have:=(rr h.iE.tr).1;have C:0<Z O.eV:=aaB;have z:=aE C;have t:=h.eV 0 _ z;rw[Lo z]at j|-;generalize O.eV[0]=y at t j|-;unfold mW at j|-;cases e:y.up with
 | none => obtain⟨s,A,-,H,-⟩:=t.down e;rw[e]at j;dsimp only at j|-;rw[DQ A]at j|-;exact H a j
 | some B => rw[e]at j;exact (t.up B e).2.2.1.inv.ab a j
theorem JO.status(h:JO l O)(A:cU par bj O k) c(j:(yj O c i).2=0):((yj O c i).1=4->gM (r0 O) i)/\((yj O c i).1=3->mM (r0 O) i):=by
 unfold yj vK pQ at j|-;dsimp only at j|-;split at j;cases j;next hn =>
 rw[bQ hn];split at j
 .next hc =>
  rw[bV hc];split at j;cases j;next B hu =>
  obtain⟨n,-,y,H,e,z,-⟩:=h.up A hu;dsimp only;unfold GG;split
  .next hh =>
   simp only[dM,List.any_eq_true,decide_eq_true_eq]at hh;obtain⟨x,C,rfl⟩:=hh;exact⟨λe=>uC,λ_=>z.1.bq x C⟩
  split
  .next hh =>
   refine⟨λ_=>?_,λe=>uC⟩;simp only[vO,fJ,Bool.or_eq_true,List.any_eq_true,decide_eq_true_eq]at hh;rcases hh with ⟨b,t,rfl⟩|⟨b,t,rfl⟩;exact z.1.cA b t;exact z.1.ab b t
  omega
 cases j
end
abbrev Kt(d:il)(ve:aQ):Array aQ:=#[G J d.id.1,G E (d.id.2.1:Int),G E (d.id.2.2:Int),G J d.cl,ve,ar d.eC,ar d.gone]
def Ku:fy il where
 size:=7
 rel d cs w:=∃j,cs=(Kt d j).toList/\bD eB d.es j w
 len:=by rintro _ _ _⟨j,rfl,_⟩;rfl
 one:=by rintro x _ _⟨j,rfl,⟨_,_,rfl,_⟩⟩ u t;simp at t;rcases t with rfl|rfl|rfl|rfl|rfl|rfl|rfl <;> rfl
 st:=by rintro _ _ _ _⟨j,rfl,h⟩ k;exact⟨j,rfl,cM h k⟩
theorem aia(l:List il) i:findD l i<=Z l:=List.findIdx_le_length
theorem aw8{l:List il}{i}{j:Nat}(h:j<=findD l i)(y:j<Z l):(l[j].id=i->findD l i=j)/\(l[j].id≠i->j+1<=findD l i):=by unfold findD at h|-;refine⟨λe=>Nat.le_antisymm (Nat.le_of_not_lt λt=>?_) h,λe=>Nat.lt_of_le_of_ne h λt=>e ?_⟩;have:=List.not_of_lt_findIdx t;simp[e]at this;have z:List.findIdx (λd:il=>decide (d.id=i)) l<Z l:=t▸y;have:=List.findIdx_getElem (w:=z);rw[decide_eq_true_eq]at this;rw[<- this];congr
theorem an4{a b:bY}(h:a≠b):a.1≠b.1\/a.1=b.1/\(a.2.1:Int)≠b.2.1\/a.1=b.1/\a.2.1=b.2.1/\(a.2.2:Int)≠b.2.2:=by grind
theorem afU l i v w(h:bD Ku l v w)(lu:Z l<=1000000) :aK aR 41 #[v,dD i] w λe Y=>e=ak (G J (findD l i))/\K w Y:=by
 obtain⟨A,c,rfl,hl,-⟩:=h;have HL:=aY hl;have HD:=aY λj=>@aw8 l i j
 have:=aia l i;have C:=bn.new w 42 #[G J i.1,G E i.2.1,G E i.2.2];have k1:=C.cG;generalize findD l i=R at *;obtain⟨i1,i2,i3⟩:=i;go_in;go_upto_region 1 with fail;generalize w.alloc _=H at *;generalize D (L w)=gx at C|-;have Q:=λX (kX:K H X)=>(C.bM kX).cell
 go_wp2_with fail
 go_loopw [5] (fun n W=>∃j:Nat,j<=R/\n=G J j/\K H W) (fun n _=>Z l-(aO n).toNat)
 case atStart=>exact⟨0,fw _,rfl,K.rf _⟩
 case round =>
  obtain⟨j,hj,rfl,kr⟩:=hrel;have Q:=Q wr kr;by_cases M:j<Z l
  case neg => have cE:¬(j:Int)<Z l:=aZ;obtain rfl:j=R:=aZ;have k9:=k1.tr kr;exact am2
  have cE:(j:Int)<Z l:=aZ;obtain⟨b,o,cs,rfl,-,S,O,d⟩:=fE HL.aX j M bG;obtain⟨z,y⟩:=HD.aX j hj M;generalize l[j]=x at *;obtain⟨ve,rfl,T⟩:=S w (K.rf w);obtain⟨A3,c3,rfl⟩:=bH T;have q1:∀n,n<7->wr.cell? ⟨b,o+j*7+n,U⟩=(Kt x (F A3 (Z x.es) c3))[n]?:=λn B=>(d wr (k1.tr kr) n B).trans aD
  have V:wr.cell? ⟨b,o+j*7,U⟩=I (G J x.id.1):=O wr (k1.tr kr);have k9:=k1.tr kr;clear d O S T;obtain⟨⟨x1,x2,x3⟩,cl,es,ask,gn⟩:=x;simp only at z y V q1;by_cases t:(x1,x2,x3)=(i1,i2,i3);obtain rfl:=z t;injection t with e1 e2;injection e2 with e2 e3;subst e1 e2 e3;clear z y;exact am2;have hD:=y t;have N:=an4 t;clear z y t;simp only at N;rcases N with B|⟨rfl,B⟩|⟨rfl,rfl,B⟩;all_goals
   go_wp2_with (go_quiet (fail))
   go_roundw
   case rel=>exact⟨j+1,hD,dh,below_drewN kr _⟩
   case measure=>simp[aO];omega
theorem avE{l:List eD}{Q S w}(y:iI l Q w)(j:iI l S w)(hlen:Z l<=1000000) :aK aR 71 #[Q,S] w λe w'=>e=ak (ar aA)/\K w w':=by
 obtain⟨A,c,rfl,Y⟩:=y;obtain⟨aS,d,rfl,hS⟩:=j;have HA:=aY Y;have HD:=aY hS;have kk:=K.rf w;clear Y hS;go_in;go_wp2_with fail
 go_loopw [5] (fun i W=>∃k:Nat,k<=Z l/\i=G J k/\K w W) (fun i _=>Z l-(aO i).toNat)
 case atStart=>exact⟨0,fw _,rfl,kk⟩
 case round =>
  obtain⟨k,hk,rfl,kr⟩:=hrel;by_cases H:k<Z l
  case neg => have gW:¬(k:Int)<Z l:=aZ;go_wp2;go_ret;exact⟨rfl,kr⟩
  have gW:(k:Int)<Z l:=aZ;obtain⟨b,z,rfl,t,y⟩:=HA.aX.Je aZ;obtain⟨e,B,rfl,C,j⟩:=HD.aX.Je aZ;obtain⟨M,V,R,X⟩:=y k H;obtain⟨N,O,T,f3⟩:=j k H;generalize l[k]=x at *;have:=(kr.cell (p:=⟨b,z+k*4,U⟩) t).trans M;have:=(kr.cell (p:=⟨b,z+k*4+1,U⟩) t).trans V;have:=(kr.cell (p:=⟨b,z+k*4+2,U⟩) t).trans R;have:=(kr.cell (p:=⟨b,z+k*4+3,U⟩) t).trans X;have:=(kr.cell (p:=⟨e,B+k*4,U⟩) C).trans N;have:=(kr.cell (p:=⟨e,B+k*4+1,U⟩) C).trans O;have:=(kr.cell (p:=⟨e,B+k*4+2,U⟩) C).trans T;have:=(kr.cell (p:=⟨e,B+k*4+3,U⟩) C).trans f3;clear M V R X N O T f3 y j;go_wp2_with (go_quiet (fail))
  go_roundw
  case rel=>exact⟨k+1,aZ,dh,below_drewN kr _⟩
  case measure=>simp[aO];omega
theorem atA(l:List (List eD)) B H w(h1:bD eB l B w)(Q:bD eB l H w)(hs:∀e∈l,Z e<=1000000)(lu:Z l<=1000000) :aK aR 49 #[B,H] w λe O=>e=ak (ar aA)/\K w O:=by
 obtain⟨A1,c1,rfl,lM,-⟩:=h1;obtain⟨A2,c2,rfl,R,-⟩:=Q;have H1:=aY lM;have H2:=aY R;have HS:=aY hs;have S:=K.rf w;go_in;go_wp2_with fail
 go_loopw [5,6] (fun i _ W=>∃j:Nat,j<=Z l/\i=G J j/\K w W) (fun i _ _=>Z l-(aO i).toNat)
 case atStart=>exact⟨0,fw _,rfl,S⟩
 case round =>
  obtain⟨j,hj,rfl,kr⟩:=hrel;by_cases y:j<Z l
  case neg => have C:¬(j:Int)<Z l:=aZ;go_wp2;go_ret;exact⟨rfl,kr⟩
  have C:(j:Int)<Z l:=aZ;obtain⟨N,o1,cs1,rfl,-,hr1,d1,-⟩:=fE H1.aX j y bG;obtain⟨b2,o2,VR,rfl,-,dC,M,-⟩:=fE H2.aX j y bG;have hsz:=HS.aX _ (dJ y);obtain⟨u1,rfl,z⟩:=hr1 w (K.rf w);obtain⟨T,rfl,A⟩:=dC w (K.rf w);have Y:∀X,K wr X->X.cell? ⟨N,o1+j,U⟩=I u1:=λX t=>by simpa [eB]using d1 X (kr.tr t)
  have q2:∀X,K wr X->X.cell? ⟨b2,o2+j,U⟩=I T:=λX t=>by simpa [eB]using M X (kr.tr t)
  have C1:=aY λX (t:K wr X)=>avE (mq _ _ _ _ z (kr.tr t)) (mq _ _ _ _ A (kr.tr t)) hsz
  obtain⟨A3,c3,rfl⟩:=tN z;obtain⟨A4,c4,rfl⟩:=tN A;generalize l[j]=x at *;go_upto_region 6 with fail;have qs:=aB Y (aB q2 (aB C y));refine fD 8 ?_;iterate 8 refine bB.i ?_
  refine λV X t hA=>?_
  simp only[bZ,cC,dF,bS,Nat.reduceAdd]at hA;refine bN.call 71 #[F A3 (Z x) c3,F A4 (Z x) c4] rfl Ty ?_;apply eu (C1.aX X t) (kr.tr t);exact am3
theorem aw9(z:List bU)(l:List il) v1 v2 w(h1:bD cL z v1 w)(h2:bD Ku l v2 w)(hn:(z.map bE).Nodup)(Y:∀x∈z,x.bA=1->∃d,findD l (bE x)<Z l/\l[findD l (bE x)]?=I d/\d.eC=aA/\d.gone=az/\d.cl=x.cl/\d.es=x.es)(hs:∀x∈z,gu x)(hLn:Z z<=1000000)(lu:Z l<=1000000) :aK aR 20 #[v1,v2] w λe w'=>e=ak (ar aA)/\K w w':=by
 have CF:=aY λi W (k:K w W)=>afU l i v2 W (cM h2 k) lu
 obtain⟨A1,c1,rfl,lM,-⟩:=h1;obtain⟨A2,c2,rfl,gK,-⟩:=h2;have H1:=aY lM;have H2:=aY gK;have HS:=aY hs;have HJ:=aY Y;have HN:Hid (∀(i k:Nat) (h:i<Z z) (h':k<i),bE (z[k]'(Nat.lt_trans h' h))≠bE z[i]):=aY λi k h h' e=>by
  have h3:(z.map bE)[k]'am4=(z.map bE)[i]'am4:=by rw[List.getElem_map,List.getElem_map];exact e
  have:=(List.getElem_inj hn).1 h3;omega
 have kk:=K.rf w;clear lM gK hs Y hn;go_in;go_wp2_with fail
 go_loopw [5,6,7,8] (fun i _ _ _ W=>∃j:Nat,j<=Z z/\i=G J j/\K w W) (fun i _ _ _ _=>Z z-(aO i).toNat)
 case atStart=>exact⟨0,fw _,rfl,kk⟩
 case round =>
  obtain⟨j,Y,rfl,kr⟩:=hrel;by_cases N:j<Z z
  case neg => have cE:¬(j:Int)<Z z:=aZ;go_wp2;go_ret;exact⟨rfl,kr⟩
  have cE:(j:Int)<Z z:=aZ;go_wp2_with fail
  generalize wr=w1 at *;go_loopw [6] (fun i W=>∃t:Nat,t<=j/\i=G J t/\K w W) (fun i _=>j-(aO i).toNat)
  case atStart=>exact⟨0,fw _,rfl,kr⟩
  case round =>
   obtain⟨t,ht,rfl,kr⟩:=hrel;obtain⟨b1,o1,cs1,rfl,-,hr1,d01,d1⟩:=fE H1.aX j N bG;obtain⟨vf,ve,rfl,hf,he⟩:=hr1 w (K.rf w);obtain⟨A3,c3,rfl⟩:=dX hf;obtain⟨A4,c4,rfl⟩:=bH he;have O:∀W,K w W->∀n,n<8->W.cell? ⟨b1,o1+j*8+n,U⟩=(cB z[j] (F A3 (Z z[j].f) c3) (F A4 (Z z[j].es) c4))[n]?:=λW k n hn=>(d1 W k n hn).trans aD
   have tK:∀W,K w W->W.cell? ⟨b1,o1+j*8,U⟩=I (G J z[j].bA):=λW k=>d01 W k
   clear hr1 d01 d1;by_cases htj:t<j
   .have yM:(t:Int)<(j:Int):=aZ;obtain⟨b2,o2,VR,e2,-,B,d02,H⟩:=fE H1.aX t aZ bG;injection e2 with e2;injection e2 with e3 e4;subst e3 e4;obtain⟨qA,pw,rfl,PL,C⟩:=B w (K.rf w);obtain⟨R,c5,rfl⟩:=dX PL;obtain⟨A6,c6,rfl⟩:=bH C;have hne:=an4 (HN.aX j t N htj);have:(t:Int)<Z z:=aZ;have q2:∀n,n<8->wr.cell? ⟨b1,o1+t*8+n,U⟩=(cB z[t] (F R (Z z[t].f) c5) (F A6 (Z z[t].es) c6))[n]?:=λn hn=>(H wr kr n hn).trans aD
    have O:=O wr kr;generalize z[t]=y at *;generalize z[j]=x at *;clear hf he PL C B d02 H tK;obtain⟨y1,y2,y3,y4,y5,y6,y7,y8⟩:=y;obtain⟨x1,x2,x3,x4,x5,x6,x7,x8⟩:=x;simp only[bE]at hne O q2;rcases hne with hn|⟨rfl,hn⟩|⟨rfl,rfl,hn⟩;all_goals
     go_wp2_with (go_quiet (fail))
     go_roundw
     case rel=>exact⟨t+1,aZ,dh,below_drewN kr _⟩
     case measure=>simp[aO];omega
   have yM:¬(t:Int)<(j:Int):=aZ;have qC:=HS.aX _ (dJ N);have hjx:=aY (HJ.aX _ (dJ N));clear ht htj;generalize wr=w2 at *;generalize z[j]=x at *;have q:=tK w2 kr;by_cases T:x.bA=1
   case neg =>
    have:(x.bA != 1)=true:=by simpa using T
    go_wp2;go_roundw
    case rel=>exact⟨j+1,aZ,dh,kr⟩
    case measure=>simp[aO];omega
   obtain⟨d,MV,M,hd3,U8,Q4,hd6⟩:=hjx.aX T;have C1:=aY (CF.aX (bE x) w2 kr);rw[T]at q;have q3:=O w2 kr;generalize findD l (bE x)=Q at *;have Wm:(Q:Int)<Z l:=aZ;have:¬(Q:Int)=Z l:=aZ;obtain⟨b2,o2,VR,rfl,-,B,d02,H⟩:=fE H2.aX Q MV bG;rw[aE MV]at M;injection M with M;rw[M]at B;obtain⟨pw,rfl,C⟩:=B w (K.rf w);obtain⟨R,c5,rfl⟩:=bH C;obtain⟨di,dc,des,aKS,aKT⟩:=d;simp only at hd3 U8 Q4 hd6 C;subst hd3 U8 Q4 hd6;have q4:∀W,K w W->∀n,n<7->W.cell? ⟨b2,o2+Q*7+n,U⟩=(Kt ⟨di,x.cl,x.es,aA,az⟩ (F R (Z x.es) c5))[n]?:=λW k n hn=>(H W k n hn).trans aD
   clear B d02 H M;go_wp2_with fail
   apply eu C1.aX kr;intro w3 k3 eA;have Q6:=tK w3 eA;rw[T]at Q6;have CE:=aY λW (k:K w W)=>atA x.es _ _ W (cM he k) (cM C k) qC.2.2 qC.2.1
   have kD:=λn=>below_drewN eA n
   go_upto_region 11 with fail;go_quiet (fail);clear Q6 q3 q;go_upto_region 13 with fail;generalize AR:World.drewN w3 _=w4;have S:K w w4:=AR▸kD _;clear AR;have qs:=aB (λX (A:K w4 X)=>O X (S.tr A)) (aB (λX (A:K w4 X)=>q4 X (S.tr A)) (aB cE (aB N (aB Wm MV))));refine fD 10 ?_;iterate 10 refine bB.i ?_
   refine λV X A hA=>?_
   simp only[bZ,cC,dF,bS,Nat.reduceAdd]at hA;refine bN.call 49 #[F A4 (Z x.es) c4,F R (Z x.es) c5] rfl Ty ?_;apply eu (CE.aX X (S.tr A)) (S.tr A);exact am3
section
variable {P:Program}{α:Type}{S:fy α}{M:Nat->Prop}{e:TypeId}{l:List α}{v u:aQ}{x:α}{w w' W W':aP}{n:Nat}
theorem bn.same{g t y cs j}(h:bn w g t cs)(z:bn w g y j):cs=j:=by grind [bn]
def Ha(w:aP)(e:TypeId)(v:aQ)(W:aP):Prop:=∃g,v=F (I ⟨g,0,U⟩) 0 0/\D (L w)<=g/\bn W g e #[]
def Jw(w:aP)(e:TypeId)(n:Nat)(W W':aP):Prop:=∃row:Option Nat,W.grownBy W' row/\∀b,row=I b->D (L w)<=b/\∃cur,bn W b e cur/\n<cur.size
theorem aCk:∀v W j,Ha w e v W->Jw w e n W j->Ha w e v j:=by
 rintro v W j⟨g,z,B,t⟩ ⟨row,k,A⟩;exact⟨g,z,B,t.grown k λh=>by
  obtain⟨-,cur,C,y⟩:=A g h.symm;rw[C.same t]at y;exact absurd y bu⟩
theorem Yl(B:∀b,D (L w)<=b->M b):∀v W j,fL M 0 e S x v W->Jw w e S.size W j->fL M 0 e S x v j:=by rintro v W j⟨g,C,A,H,t,z⟩ ⟨row,k,y⟩;refine⟨g,C,A,H,t.grown k λh=>?_,z.up (bf.gy (X:=λb=>row=I b) k λ_ h=>h) λb h=>B b (y b h).1⟩;obtain⟨-,cur,N,O⟩:=y g h.symm;rw[N.same t]at O;have:=S.len z.now;simp at this;omega
variable {t ty:TypeId}{z:aQ}{size bytes:Nat}
theorem aht(T:gQ P t e z size bytes)(hsz:S.size=size)(h0:Ha w e u W)(hL:iw M S l v W)(hw:D (L w)<=D (L W))(hbytes:(Z l+1)*(bytes+1)<=140737488355328) :∃B C,(Builtin.append_ #[t,t] ty #[u,v]).run P W=.ok B C/\bK M 0 e S l B C/\K W C/\(∀b,aW B=I b->D (L w)<=b)/\∀A n c,B=F A n c->l=[]->c=0:=by
 obtain⟨i,O,Y,hz1,hz2⟩:=T.fit;have:=T.pos;subst hsz;obtain⟨g,rfl,hg,hb⟩:=h0;obtain⟨A,c,y,rfl,hc,hR,hl,-,hE⟩:=hL;have Mb:=hE W (bf.rf _ _);by_cases H:l=[]
 .subst H;obtain rfl:y=[]:=List.eq_nil_of_length_eq_zero hl;refine⟨F (I ⟨g,0,U⟩) 0 0,W,?_,⟨[],⟨bu,aJ ⟨g,0,#[],rfl,fw _,hb,bP _,aZ,bu,bu⟩⟩,rfl,λ_ _=>Each.nil _ _⟩,K.rf _,λb h=>by simp[Value.ownBlock]at h;omega,λA n c h _=>bL⟩;cases A <;> simp[Builtin.append_,run_underlying T.und,sizeOf,typeInfo,O,Builtin.lenOf,Builtin.firstCells,loadCells,loadCellsFrom,storeCells]
 have hlp:=List.length_pos_iff.2 H;have:Z y.flatten=Z l*S.size:=Mb.D2;have hp:0<Z y.flatten:=GA;obtain⟨b,N,rfl,_,hcell⟩:=hR.2 hp;have cK:Z l*(bytes+1)<=140737488355328:=cQ (Nat.mul_le_mul_right _ (aH _)) hbytes;have:Z l<=140737488355328:=cQ (Nat.le_mul_of_pos_right _ (Nat.succ_pos _)) cK;have:Z l*bytes<=140737488355328:=cQ (Nat.mul_le_mul_left _ (aH _)) cK;obtain⟨B,C,hrun,V,-⟩:=GC W 0 t ty e z S.size bytes T (F U 0 0) 0 [] (oV _ _ _ _) _ _ (Z l) c y.flatten hR Mb.ones bL (fw _);have X:Z y.flatten=Z l*i.size:=bL;have hn:∀j u,y.flatten[j]?=I u->W.cell? ((⟨b,N,U⟩:Addr).add j)=I u:=λj u hu=>by rw[Addr.add_lit];exact hcell j u hu
 rw[run_append_nil (P:=P) W t ty e i z T.und O Y ⟨b,N,U⟩ (Z l) c y.flatten X hn hlp aZ bL]at hrun;injection hrun with e1 e2;subst e1 e2;have Q:=run_append_grow (P:=P) W t ty e i z T.und O Y ⟨g,0,U⟩ 0 0 [] bu bu ⟨b,N,U⟩ (Z l) c y.flatten X hn aZ aZ (by rw[mr,nextslicecap_zero hlp,hz2];omega);have R:K W (W.drew.alloc (aq (y.flatten.toArray++Builtin.zeroCells z.cells (grownCap W (Z l) 0 e-Z l)) e)):=(Below.drew (K.rf W)).al _;simp only[mr,bZ,Array.empty_append,List.size_toArray]at Q V;refine⟨_,_,Q,⟨y,V,hl,λW'' u=>hE W'' ((bf.cz R _).ir u λk hk h=>h.elim id λh=>?_)⟩,R,λb h=>?_,λ_ _ _ _ h=>absurd h H⟩;injection h with h;have h:D (L W)=k:=h;omega;injection h with h;have h:D (L W)=b:=h;omega
theorem ay5(T:gQ P t e z size bytes)(hsz:S.size=size)(hO:bK M 0 e S l v W)(hv:∀b,aW v=I b->D (L w)<=b)(hc0:∀A n c,v=F A n c->l=[]->c=0)(hx:fL M 0 e S x u W)(hM:∀b,D (L w)<=b->M b)(C:K w W)(hbytes:(Z l+1)*(bytes+1)<=140737488355328) :∃y B,(Builtin.append_ #[t,t] ty #[v,u]).run P W=.ok y B/\bK M 0 e S (l++[x]) y B/\K w B/\Jw w e S.size W B/\∀b,aW y=I b->D (L w)<=b:=by
 obtain⟨i,hi,hz0,hz1,hz2⟩:=T.fit;have hpos:=T.pos;obtain⟨y,B,N,Y,H,R,-⟩:=XS (P:=P) (ty:=ty) t z size bytes T hsz hO u x (hx.less λk hk=>hk.elim id λh=>hM k (hv k h)) hbytes (fw _);have iR:∀b,aW y=I b->D (L w)<=b:=λb V=>by
  rcases R with R|R
  .grind
  rw[R]at V;injection V with V;have:=C.size;omega
 have EU:=hO;obtain⟨bw,O,g2,-⟩:=EU;have g1':=O;rcases O.2 with ⟨rfl,g3⟩|⟨g,cap,cur,rfl,g4,g5,g6,g7,g8,g9⟩;exact⟨y,B,N,Y,(bf.gy (X:=λ_=>False) H λ_ h=>kP).k C λ_ h=>h.elim,⟨U,H,λb h=>kP⟩,iR⟩;by_cases hcap:cap=Z l
 .obtain⟨g',cs,rfl,-,q2,q3⟩:=hx;have hcl:=S.len q3.now;obtain⟨q4,-⟩:=Dw O;have hb2:Z l+1<=140737488355328:=cQ (Nat.le_mul_of_pos_right _ (Nat.succ_pos _)) hbytes;have dB:(Z l+1)*bytes<=140737488355328:=cQ (Nat.mul_le_mul_left _ (aH _)) hbytes;have hnx:Builtin.nextslicecap (Z l+1) (Z l)*bytes<=281474976710656:=by have:Builtin.nextslicecap (Z l+1) (Z l)<=2*(Z l+1):=nextslicecap_le (Nat.lt_succ_self _);have:=Nat.mul_le_mul_right bytes this;rw[Nat.mul_assoc]at this;omega
  subst hcap;have e0:=run_append_grow (P:=P) W t ty e i z T.und hi hz0 ⟨g,0,U⟩ (Z l) (Z l) bw.flatten (by rw[O.1,hz1,hsz]) (λj u Q=>by rw[Addr.add_lit,mr,q4 j (aF.1 Q).1];exact Q) ⟨g',0,U⟩ 1 1 cs.toList (by rw[hcl,hz1,hsz,Nat.one_mul]) (λj u Q=>by rw[Addr.add_lit,mr,q2.cell];simpa using Q) (Nat.lt_succ_self _) aZ (by rw[hz2];exact hnx);rw[e0]at N;injection N with e1 e2;subst e1 e2;have kD:K W (W.drew.alloc (aq (bw.flatten.toArray++cs.toList.toArray++Builtin.zeroCells z.cells (grownCap W (Z l+1) (Z l) e-(Z l+1))) e)):=(Below.drew (K.rf W)).al _;exact⟨_,_,e0,Y,C.tr kD,⟨U,zC kD _,λb h=>kP⟩,iR⟩
 refine⟨y,B,N,Y,?_,⟨I g,H,λb h=>?_⟩,iR⟩;exact (bf.gy (X:=λb=>b=g) H λb h=>by injection h with h;exact h.symm).k C λb h=>by rw[h];exact hv g rfl
 injection h with h;subst h;refine⟨hv _ rfl,cur,g5,?_⟩;have hne:l≠[]:=λh=>by have:=hc0 _ _ _ rfl h;rw[h]at hcap;exact hcap this
 have:=List.length_pos_iff.2 hne;rw[g8];have:2*S.size<=cap*S.size:=Nat.mul_le_mul_right _ aZ;omega
theorem ahu(hk:K w W)(T:TypeId):Ha w T (F (I ⟨D (L W),0,U⟩) 0 0) (aU W (aq #[] T)):=⟨_,rfl,hk.size,bn.new _ _ _⟩
end
theorem WD{P:Program}{Q:Exit->Act->aP->Prop}{α:Type}{S:fy α}{M:Nat->Prop}{e:TypeId}{w:aP}{id:Nat}{ops:Array Oper}{B:Act}(m z y:Nat)(l:List α)(v:aQ)(x:α)(tt:TypeId){zv:aQ}{size bytes:Nat}(T:gQ P tt e zv size bytes){s u s2 u2:Operand}{o N:Oper}{R O:List Nat×List (Nat×Nat)}{H:List (List Nat×List (Nat×Nat))}{n:Nat}
 (hL:iw M S l v w) (hM:∀b,D (L w)<=b->M b) (hl:(Z l+1)*(bytes+1)<=140737488355328)
 (h:bB P B (K w) (Jw w e S.size) [z,y] (λr xs t=>(∀v W,tab t z v W)/\(∀v W,tab t y v W)/\(∀V W,K w W->(∀j∈R.1,tab t j (V j) W)->Ha w e (bR R.2 B V s) W/\bR R.2 B V u=v) /\
  (∀V W,K w W->(∀j∈O.1,tab t j (V j) W)->bR O.2 B V s2=V z/\fL M 0 e S x (bR O.2 B V u2) W) /\
  ∀V W,K w W->bK M 0 e S (l++[x]) (V y) W->(∀b,aW (V y)=I b->D (L w)<=b)->dF V W 0 t->bN P B (λV W=>Q .normal (iO V ops.toList 0 B) W) m r xs V W) m ops.toList H [])
 (hq:TW ops=H:=by conv=>lhs;cbv) (hz:ops[z]?=I o:=by rfl) (hx:H[z]?=I R:=by rfl) (hop:o.op=.call { callee:=.builtin .append,args:=#[s,u],argTypes:=#[tt,tt] }:=by rfl) (hg:o.guard=none:=by rfl)
 (hz2:ops[y]?=I N:=by rfl) (hx2:H[y]?=I O:=by rfl) (aFC:N.op=.call { callee:=.builtin .append,args:=#[s2,u2],argTypes:=#[tt,tt] }:=by rfl) (gh:N.guard=none:=by rfl) (hS:S.size=size:=by rfl)
 (hn:B.tmps.size=n:=by rfl) (hm:P.follows .mixedOrders=true:=by kernel_rfl) (hok:rV ops n=true:=by kernel_rfl) (hpl:tR ops H=true:=by kernel_rfl) (gT:Ff H m ops.size=true:=by kernel_rfl) (yS:Ca H [z,y] m=true:=by kernel_rfl) (Ek:[z,y].Nodup:=by decide) (nB:m<=ops.size:=by decide) :
 (Code.region id ops aA).wp P Q B w :=
 Kz m [z,y] (K w) (Jw w e S.size) (λk vs W=>if k=0 then True else if k=1 then bK M 0 e S l (vs.getD 0 undef) W/\(∀b,aW (vs.getD 0 undef)=I b->D (L w)<=b)/\∀A n c,vs.getD 0 undef=F A n c->l=[]->c=0 else bK M 0 e S (l++[x]) (vs.getD 1 undef) W/\∀b,aW (vs.getD 1 undef)=I b->D (L w)<=b) H n
  (λ_ _ h k=>h.tr k) (λW W' h=>⟨U,zC h _,λb h=>kP⟩) (λk vs W W' h kW=>by
   split;trivial;split
   .next h0 Y =>
    rw[bQ h0,bV Y]at h;exact⟨h.1.st kW,h.2⟩
   next h0 Y =>
   rw[bQ h0,bQ Y]at h;exact⟨h.1.st kW,h.2⟩) (K.rf w) (λ_=>trivial)
  (bB.imp (λr xs t ⟨t1,t2,Y,h2,h3⟩=>⟨⟨⟨o,R,hz,hx,hg,λV W C X hp=>by
   obtain⟨e1,e2⟩:=Y V W C hp
   obtain⟨v',W',hrun,g1,g2,g3,g4⟩:=aht (P:=P) (ty:=o.type) T hS e1 (hL.st C) C.size hl
   have hrun':(aL (bR R.2 B V) (bT o.op o.type)).run P W=.ok (.value v') W':=by rw[<- e2]at hrun;rw[hop];exact YH
   rw[hrun']
   exact⟨C.tr g2,⟨U,zC g2 _,λb h=>kP⟩,⟨g1,g3,g4⟩,t1 _ _⟩⟩,⟨N,O,hz2,hx2,gh,λV W C X hp=>by
    obtain⟨e1,e2⟩:=h2 V W C hp;obtain⟨d1,d2,d3⟩:bK M 0 e S l (V z) W/\(∀b,aW (V z)=I b->D (L w)<=b)/\∀A n c,V z=F A n c->l=[]->c=0:=X;obtain⟨v',W',hrun,g1,g2,g3,g4⟩:=ay5 (P:=P) (ty:=N.type) T hS d1 d2 d3 e2 hM C hl;have hrun':(aL (bR O.2 B V) (bT N.op N.type)).run P W=.ok (.value v') W':=by rw[<- e1]at hrun;rw[aFC];exact YH
    rw[hrun'];exact⟨g2,g3,⟨g1,g4⟩,t2 _ _⟩⟩,trivial⟩,
   λV W C X hA=>h3 V W C X.1 X.2 hA⟩) _ _ _ _ h) hn hm hok hpl gT yS Ek nB
theorem bB.emp{P:Program}{j:Act}{w:aP}{n:Nat}{e:TypeId}{y:List Nat}{B:List Oper->List (List Nat×List (Nat×Nat))->List (aQ->aP->Prop)->Prop}{m:Nat}{o:Oper}{r:List Oper}{x:List Nat×List (Nat×Nat)}{xs:List (List Nat×List (Nat×Nat))}{t:List (aQ->aP->Prop)}{A:TypeId}{z:aQ}{size bytes:Nat}(T:gQ P A e z size bytes)(k:bB P j (K w) (Jw w e n) y B m r xs (t++[Ha w e]))(Q:o.op=.buildSlice A 0 #[]:=by rfl)(hg:o.guard=none:=by rfl)(M:y.contains (Z t)=false:=by (simp only[fg,gH,List.length_nil,List.contains_nil];try rfl)):bB P j (K w) (Jw w e n) y B (m+1) (o :: r) (x :: xs) t:=by
 refine bB.op (Ha w e) (λ_ _ _ h k=>aCk _ _ _ h k) (λV W C S=>?_) k M;have H:(aL (bR x.2 j V) (bT (.buildSlice A 0 #[]) o.type)).run P W=.ok (.value (F (I ⟨D (L W),0,U⟩) 0 0)) (aU W (aq #[] e)):=by obtain⟨i,O,N,X,R⟩:=T.fit;simp[aL,bT,Instr.buildSlice,run_underlying T.und,sizeOf,typeInfo,O,zeroValue,N,Instr.fill,newRow,go_sem]
 rw[hg,bV (show dI V U=aA from rfl),Q,H];exact⟨ahu C e,(K.rf W).al _⟩
def nN(ids:List bY)(b:Int):bY:=if 0<Z ids/\0<=b then (ids[b.toNat%Z ids]?).getD (0,0,0)else (0,0,0)
def yz(l:List il)(n:Nat)(z:Int)(e:List eD):List il :=
 if z=10 then l.modify n λd=>{ d with es:=d.es++[e] }else if z=11 then l.modify n λd=>{ d with eC:=true }else if z=12 then l.modify n λd=>{ d with gone:=true }else l
def yA(O:cT)(l:List il)(ids:List bY)(c:vR):cT×List il×List bY :=
 if N9 c then ((tT O c.bA c.a c.b c.f).1,if c.bA=9/\(tT O c.bA c.a c.b c.f).2.2=0 then l++[⟨(tT O c.bA c.a c.b c.f).2.1,c.a,[],az,az⟩]else l,ids++[(tT O c.bA c.a c.b c.f).2.1])
 else ((oF O c.bA c.a c.b c.e (nN ids c.b)).1,if (oF O c.bA c.a c.b c.e (nN ids c.b)).2=0/\findD l (nN ids c.b)<Z l then yz l (findD l (nN ids c.b)) c.bA c.e else l,ids)
theorem JO.abX{l O ids par bj k}(h:JO l O)(t:cU par bj O k)(hp:Z par<=6)(hk:k+588<=50000)(c:vR):JO (yA O l ids c).2.1 (yA O l ids c).1/\∀a,gM (r0 O) a->gM (r0 (yA O l ids c).1) a:=by
 unfold yA;split
 .next hg =>
  unfold tT;by_cases N:c.bA=9;rw[bV N];simp only[N,true_and];exact h.begin t _;have e:∀(p:Prop) [Decidable p] (x y:List il),(if c.bA=9/\p then x else y)=y:=λp _ x y=>bQ λe=>N e.1
  rw[e,bQ N];split;exact h.sub t _ _ _;exact h.O4 t _ _
 have key:∀ {R:cT×Int} {z:Int},z≠10->z≠11->z≠12->JS l O R.1->JO (if R.2=0/\findD l (nN ids c.b)<Z l then yz l (findD l (nN ids c.b)) z c.e else l) R.1/\∀a,gM (r0 O) a->gM (r0 R.1) a:=by intro R z C B T Q;unfold yz;rw[bQ C,bQ B,bQ T,ite_self];exact Q
 have V:∀ {R:cT×Unit×Int} {S},((R.2.2=0->findD l (nN ids c.b)<Z l)/\JO (if R.2.2=0 then S else l) R.1/\∀a,gM (r0 O) a->gM (r0 R.1) a)->JO (if R.2.2=0/\findD l (nN ids c.b)<Z l then S else l) R.1/\∀a,gM (r0 O) a->gM (r0 R.1) a:=by rintro R S⟨C,B⟩;by_cases M:R.2.2=0;rw[bV M]at B;rwa [bV ⟨M,C M⟩];rw[bQ M]at B;rwa [bQ λh=>M h.1]
 generalize c.bA=z;obtain⟨P,H⟩:∃P:cT×Int->Prop,∀R:cT×Int,P R↔(JO (if R.2=0/\findD l (nN ids c.b)<Z l then yz l (findD l (nN ids c.b)) z c.e else l) R.1/\∀a,gM (r0 O) a->gM (r0 R.1) a):=⟨_,λ_=>Iff.rfl⟩;have A:∀ {R:cT×Int},z≠10->z≠11->z≠12->JS l O R.1->P R:=λC B T Q=>(H _).2 (key C B T Q)
 have j:∀ {q:Prop} [Decidable q] {x y:cT×Int},(q->P x)->(¬q->P y)->P (if q then x else y):=λ{q} _ {x y} C B=>by split;exact C ‹_›;exact B ‹_›
 refine (H _).1 ?_;unfold oF;refine j (λe=>A aZ aZ aZ (h.tick t _)) λ_=>j (λe=>A aZ aZ aZ (h.Fc t _ _)) λ_=>j (λe=>A aZ aZ aZ (h.abW (λh=>h.drop) _ _)) λ_ =>
  j (λe=>A aZ aZ aZ (h.abW (λh=>h.twice) _ _)) λ_=>j (λe=>A aZ aZ aZ (h.abW (λh=>h.turn) _ _)) λ_=>j (λe=>A aZ aZ aZ (h.Ln t _)) λ_ =>
  j (λe=>A aZ aZ aZ (h.OH t aZ _)) λ_=>j (λe=>A aZ aZ aZ (h.round t hp hk)) λ_=>j (λe=>(H _).2 ?_) λW=>j (λe=>(H _).2 ?_) λX=>j (λe=>(H _).2 ?_) λY=>j (λe=>A W X Y (h.Pz _)) λ_=>A W X Y (.rf h)
 all_goals subst e
 exact V (R:=eS O c.a (nN ids c.b) λl=>ij l (nN ids c.b) c.e) (h.Fb t _ _);exact V (R:=eS O c.a (nN ids c.b) λl=>iK l (nN ids c.b)) (h.Fi t _);exact V (R:=eS O c.a (nN ids c.b) λl=>jD l (nN ids c.b)) (h.abort t _)
theorem Wn:gQ aR 52 67 (av #[G J 0,G E 0,G E 0,G J 0,F U 0 0,ar az,ar az]) 7 64:=⟨underlying52,gP,rfl,bG⟩
theorem bK.dx{α}{S:fy α}{Y:Nat->Prop}{base e l go cap w}(h:bK Y base e S l (F (I ⟨go,0,U⟩) (Z l) cap) w){j}(hj:j<Z l){q}(Q:q<S.size){u:aQ}{y:α}(R:∀W cs,bf (λk=>Y k\/k=go) (aV w ⟨go,j*S.size+q,U⟩ u) W->S.rel l[j] cs W->S.rel y (cs.set q u) W):bK Y base e S (l.set j y) (F (I ⟨go,0,U⟩) (Z l) cap) (aV w ⟨go,j*S.size+q,U⟩ u):=by obtain⟨t,T,h2,M⟩:=h;have z:=M w (bf.rf _ _);have N:j<Z t:=aZ;have:j*S.size+S.size<=Z l*S.size:=amb;have A:=SB T (q:=j*S.size+q) (by rw[z.D2];omega) u;rw[Nh S.size u t z.lens j q N Q]at A;refine⟨t.set j (t[j].set q u),by simpa using A,NX,λB C=>?_⟩;have V:bf (λk=>Y k\/aW (F (I ⟨go,0,U⟩) (Z l) cap)=I k) w (aV w ⟨go,j*S.size+q,U⟩ u):=bf.dx (X:=λk=>Y k\/aW (F (I ⟨go,0,U⟩) (Z l) cap)=I k) (aJ rfl) _ _;have H:=M B (V.tr C);exact H.set j (R B _ (C.more λk O=>O.imp id λe=>amc) (H.2 j hj N))
theorem avF{P:Program}{α}{S:fy α}{M:Nat->Prop}{l:List α}{u v:aQ}{w0 w:aP}{ops rest o a Q}(y:o.guard=U) s x t(A:o.op=.call { callee:=.builtin .append,args:=#[s,x],argTypes:=#[t,t] }) e z size bytes(T:gQ P t e z size bytes)(hsz:S.size=size)(V:a.eval s=u)(O:Ha w0 e u w)(Y:a.eval x=v)(X:iw M S l v w)(j:D (L w0)<=D (L w))(W:(Z l+1)*(bytes+1)<=140737488355328)(h:∀v' w',bK M 0 e S l v' w'->K w w'->(∀b,aW v'=I b->D (L w0)<=b)->wpList P ops Q rest (a.put o.dst v') w') :wpList P ops Q (o :: rest) a w:=by
 refine wpList_plain y λK N=>?_
 obtain⟨v',w',B,H,C,R,-⟩:=aht (P:=P) (ty:=o.type) T hsz O X j W;unfold Oper.wp aL;simp only[A,resolve,invoke,builtin,Sem.run_bind,Sem.run_pure,Result.andThen_ok,List.map_toArray,mN,List.map_nil,V,Y,B];exact N _ _ (h v' w' H C R)
structure Q7(aa:Nat->Prop)(l:List il)(ids:List bY)(vl vi:aQ)(W:aP):Prop where
 dl:iw (λb=>¬aa b) Ku l vl W
 is:iw (λb=>¬aa b) dQ ids vi W
def vM(C:Nat->Prop)(par bj:List Int)(gw:Nat)(R:cT×List il×List bY)(k:Nat)(y:Nat->Prop)(W:aP)(e:Ending)(w':aP):Prop :=
 ∃vl t j,e=ak (au #[vl,t])/\dY C par bj gw R.1 k j w'/\bf (λb=>¬y b/\¬C b) W w'/\(∀b,y b->j b)/\Q7 j R.2.1 R.2.2 vl t w'
theorem vM.same{C par bj gw O k j z W t w' l ids vl y}(B:dY C par bj gw O k z t)(M:∀b,j b->z b)(h:bf (λb=>¬j b/\¬C b) W t)(hk:K t w')(A:Q7 j l ids vl y W):vM C par bj gw (O,l,ids) k j W (ak (au #[vl,y])) w' :=
 ⟨vl,y,j,rfl,B.more hk λb H=>aI (M b H),h.tr (bf.cz hk _),λ_ h=>h,
  (A.dl.to h (λ_ h=>h.1) (λ_ _ h=>h) bG).st hk,(A.is.to h (λ_ h=>h.1) (λ_ _ h=>h) bG).st hk⟩
theorem vM.aX{C par bj gw O k y H W t z e}{Y:Nat->Prop}{l ids vl B M A}(R:dY C par bj gw O k H t)(N:∀b,y b->H b)(h:bf (λb=>¬y b/\¬C b) W t)(hk:K t z)(Q:Q7 y l ids vl B W)(h9:bK Y 0 e Ku M A z)(S:∀b,¬(y b\/D (L t)<=b/\b<D (L z))->Y b)(hn:∀b,aW A=I b->D (L t)<=b) :
 vM C par bj gw (O,M,ids) k y W (ak (au #[A,B])) z :=
 ⟨A,B,λb=>y b\/D (L t)<=b/\b<D (L z),rfl,R.more hk λb j=>j.imp (N b) id,h.tr (bf.cz hk _),λ_=>aI,h9.Dk (λb j=>aI (S b j)) λb j hz=>hz (aJ ⟨hn b j,(h9.blk b j).2⟩),
  ((Q.is.to h (λ_ h=>h.1) (λ_ _ h=>h) bG).st hk).less λb j hz=>j (aI hz)⟩
theorem Xr{l:List il}{j:Nat}(h:j<Z l)(f:il->il):l.modify j f=l.set j (f l[j]):=by apply List.ext_getElem?;intro i;grind
theorem aup{C par bj gw O k H W}(h:dY C par bj gw O k H W)(hp:Z par<=6)(hk:k+588<=40000)(c:vR) ve vf(hc:Jh c)(jH:Fx (λb=>¬H b) (λW=>iI c.e ve W) W)(hf:fZ c.f vf W)(hel:Z c.e<=1000000)(dU:Z c.f<=1000000){l ids vl vi}(hL:Q7 H l ids vl vi W)(hfi:∀a∈ids,ew a)(fR:Z l<=1000)(nA:Z ids<=1000)(xI:∀d∈l,Z d.es<=1000) :aK aR 18 #[aj (I ⟨gw,0,U⟩),av (Ei c ve vf),vl,vi] W (vM C par bj gw (yA O l ids c) (k+588) H W):=by
 have HL:=aY hL;have HD:Hid (yA O l ids c=yA O l ids c):=aY rfl;generalize hR:yA O l ids c=R at HD|-;have HR:=aY hR;have hlt:=h.lt;obtain⟨z,a,b,e,f⟩:=c;obtain⟨Al,cl,rfl⟩:=hL.dl.slice;obtain⟨Ai,ci,rfl⟩:=hL.is.slice;obtain⟨A1,c1,rfl⟩:=tN jH.now;obtain⟨A2,c2,rfl⟩:=dX hf;have Mv:=aY jH;have QQ:=aY xI;have kA:=K.new W (aq #[G J z,G J a,G J b,F A1 (Z e) c1,F A2 (Z f) c2] 55);have cK:=bn.new W 55 #[G J z,G J a,G J b,F A1 (Z e) c1,F A2 (Z f) c2];go_in;go_upto_region 1 with fail;generalize W.alloc _=W1 at *;have gG:=aY (h.more (Z':=λx=>H x\/x=D (L W)) kA λx hx=>hx.imp id λe=>⟨aZ,by rw[e];exact cK.lt⟩);have q1:=cK.cells W1 (K.rf _);have CG:=aY (as1 ⟨z,a,b,e,f⟩ A1 (Z e) c1 A2 (Z f) c2 W1);go_wp2_with fail
 refine CG.aX.mono ?_;rintro _ T⟨rfl,k2⟩;have Q8:=kA.tr k2;have hb2:=cK.bM k2;replace gG:=aY (gG.aX.st k2);clear CG q1;cases hgv:N9 ⟨z,a,b,e,f⟩
 case true =>
  have q1:=hb2.cells T (K.rf _);have CA:=aY (atz gG.aX aZ ⟨z,a,b,e,f⟩ _ _ hc (mq _ _ _ _ Mv.aX.now Q8) (fO _ _ _ _ hf Q8) dU);have HP:Hid (R=((tT O z a b f).1,if z=9/\(tT O z a b f).2.2=0 then l++[⟨(tT O z a b f).2.1,a,[],az,az⟩]else l,ids++[(tT O z a b f).2.1])):=aY am5;simp only at CA;generalize tT O z a b f=X at *;obtain⟨XO,i,x2⟩:=X;simp only at HP;go_wp2_with fail
  refine CA.aX.mono ?_;rintro _ N⟨rfl,hQ⟩;have dB:=hb2.cF hQ.2 λh=>h.1 (aJ rfl)
  have Q9:bf (λb=>¬H b/\¬C b) W N:=(bf.cz Q8 _).tr (hQ.2.more λb h=>⟨λhz=>h.1 (aI hz),h.2⟩);have dS:=aY (show dY C par bj gw XO (k+588) (λx=>H x\/x=D (L W)) N from ⟨hQ.1.1.mono aZ,hQ.1.2⟩);have mf:=HL.aX.dl.to Q9 (λ_ h=>h.1) (λ_ _ h=>h) bG;have Ip:=HL.aX.is.to Q9 (λ_ h=>h.1) (λ_ _ h=>h) bG;have jY:=Q9.size;have HU:=aY Q9;have hb4:=bn.new N 42 #[G J i.1,G E (i.2.1:Int),G E (i.2.2:Int)];have kB:=hb4.cG;replace dB:=dB.alloc (aq #[G J i.1,G E (i.2.1:Int),G E (i.2.2:Int)] 42);replace mf:=mf.st kB;replace Ip:=Ip.st kB;have hM:∀b,D (L N)<=b->¬H b:=λb hb hz=>by have:=hlt b (aI hz);omega
  clear CA hQ Q9 hb2 cK h hL HD gG Mv jH hf;go_upto_region 3 with fail;generalize ay N _=w4 at *;have q3:∀X,K w4 X->∀j,X.cell? ⟨D (L W),j,U⟩=_:=λX B=>(dB.bM B).cell
  have q4:∀X,K w4 X->∀j,X.cell? ⟨D (L N),j,U⟩=_:=λX B=>(hb4.bM B).cell
  have q1:=q3 w4 (K.rf _);have hM4:∀b,D (L w4)<=b->¬H b:=λb hb=>hM b (cQ kB.size hb)
  have hz:z≠9\/z=9/\x2≠0\/z=9/\x2=0:=aZ;rcases hz with hz|⟨rfl,hz⟩|⟨rfl,rfl⟩;rotate_left 2;replace HP:Hid (R=(XO,l++[⟨i,a,[],az,az⟩],ids++[i])):=aY (by rw[HP.aX,bV ⟨rfl,rfl⟩]);go_upto_region 4 with fail;have qs:=aB q3 q4;refine WD 9 2 8 l _ ⟨i,a,[],az,az⟩ 52 Wn mf hM4 aZ ?_;refine bB.emp Wn ?_;refine bB.i ?_;refine bB.s ?_;iterate 4 refine bB.i ?_
  refine bB.row 52 _ _ _ Wn rfl bG _ ⟨i,a,[],az,az⟩ rfl rfl (λV W kW hp=>?_) ?_ (Yl hM4);simp only[dN,bZ,cC,dK,dL,bS]at hp;show tD _ _ _ (V 6) _;rw[hp.1];exact⟨rfl,λ_ _=>⟨_,rfl,iJ _ _⟩⟩;refine bB.s ?_;clear qs;refine⟨λ_ _=>trivial,λ_ _=>trivial,λV X B hp=>?_,λV X B hp=>?_,λV X B S iR hA=>?_⟩;exact aaK;exact aaL;simp only[bZ,cC,dF,bS,Nat.reduceAdd]at hA;obtain⟨A9,c9,e9⟩:=S.slice;have rL:iw (λb=>¬(H b\/D (L N)<=b/\b<D (L X))) Ku _ _ X:=S.Dk (λb hb=>aI λhz=>hb (aI hz)) λb hb hn=>hn (aJ ⟨cQ kB.size (iR b hb),(S.blk b hb).2⟩)
  generalize l++[_]=l5 at *;rw[e9]at rL;have k5:=kB.tr B;have Qo:=Ip.st B;have q4:=λY (kY:K X Y)=>q4 Y (B.tr kY)
  have hA:=aB e9 hA;have qs:=True.intro;refine bN.p ?_;refine bN.h ?_;clear hA qs S iR e9 mf Ip;generalize F A9 (Z l5) c9=v5 at *;generalize X=w5 at *;rotate_left 1;replace HP:Hid (R=(XO,l,ids++[i])):=aY (by rw[HP.aX,bQ λh=>hz h.1]);rotate_left 1;replace HP:Hid (R=(XO,l,ids++[i])):=aY (by rw[HP.aX,bQ λh=>hz h.2]);rotate_left 1;rotate_left 1;iterate 2
   have rL:iw (λb=>¬(H b\/D (L N)<=b/\b<D (L w4))) Ku l (F Al (Z l) cl) w4:=mf.less λb hb hz=>hb (aI hz)
   have k5:=kB
   have Qo:=Ip
   clear mf Ip hz
   generalize F Al (Z l) cl=v5 at *
   generalize l=l5 at *
   generalize w4=w5 at *
   rotate_left 1
  all_goals
   go_upto_region 5 with fail
   have hM5:∀b,D (L w5)<=b->¬H b:=λb hb=>hM b (cQ k5.size hb)
   have qs:=q4
   refine WD 7 3 6 ids _ i 53 sK Qo hM5 aZ ?_
   refine bB.i ?_
   refine bB.emp sK ?_
   refine bB.i ?_
   refine bB.s ?_
   refine bB.i ?_
   refine bB.row 53 _ _ _ sK rfl bG _ i rfl rfl (λV W kW hp=>?_) ?_ (Yl hM5)
   .simp only[dN,bZ,cC,dK,dL,bS]at hp;show tD _ _ _ (V 4) _;rw[hp.1];exact⟨rfl,λ_ _=>rfl⟩
   refine bB.s ?_
   clear qs
   refine⟨λ_ _=>trivial,λ_ _=>trivial,λV X B hp=>?_,λV X B hp=>?_,λV X B S iR hA=>?_⟩
   .exact aaK
   .exact aaL
   simp only[bZ,cC,dF,bS,Nat.reduceAdd]at hA
   obtain⟨A6,c6,e6⟩:=S.slice
   rw[fg,List.length_singleton]at e6
   have hi6:iw (λb=>¬(H b\/D (L N)<=b/\b<D (L X))) dQ _ _ X:=S.Dk (λb hb=>aI λhz=>hb (aI hz)) λb hb hn=>hn (aJ ⟨cQ k5.size (iR b hb),(S.blk b hb).2⟩)
   have UT:iw (λb=>¬(H b\/D (L N)<=b/\b<D (L X))) Ku _ _ X:=(rL.st B).less λb hb hz=>hb (hz.imp id λh=>⟨h.1,cZ h.2 B.size⟩)
   rw[e6]at hi6
   have Q:Hid (vM C par bj gw R (k+588) H W (ak (au #[v5,F A6 (Z ids+1) c6])) X):=aY (by
    rw[HP.aX];exact⟨_,_,_,rfl,(dS.aX.more (Z':=λb=>H b\/D (L N)<=b/\b<D (L X)) (k5.tr B) λb hb=>hb.imp aI id),HU.aX.tr (bf.cz (k5.tr B) _),λ_=>aI,⟨UT,hi6⟩⟩)
   have hA:=aB e6 hA
   have qs:=True.intro
   refine bN.p ?_
   refine bN.p ?_
   refine bN.h ?_
   go_wp2
   go_ret2
   exact Q.aX
 case false =>
  have HP:Hid (R=((oF O z a b e (nN ids b)).1,if (oF O z a b e (nN ids b)).2=0/\findD l (nN ids b)<Z l then yz l (findD l (nN ids b)) z e else l,ids)):=aY am5;have HI:Hid (nN ids b=if 0<Z ids/\0<=b then (ids[b.toNat%Z ids]?).getD (0,0,0)else (0,0,0)):=aY rfl;have fi:ew (nN ids b):=by
   unfold nN;split
   .next h =>
    rw[aE (Nat.mod_lt _ h.1)];exact hfi _ (dJ _)
   simp[ew,dA]
  generalize nN ids b=i at *;have hb4:=bn.new T 42 #[G J 0,G E 0,G E 0];have kB:=hb4.cG;replace hb2:=hb2.alloc (aq #[G J 0,G E 0,G E 0] 42);have q1:=hb2.cell;have hM:∀b,D (L W)<=b->¬H b:=λb hb hz=>by have:=hlt b (aI hz);omega
  have hg:D (L W)<D (L T):=cZ cK.lt k2.size;clear cK h hL HD HR hR k2 kA;go_upto_region 7 with fail;generalize ay T _=N at *;have kA3:=Q8.tr kB;have q4:=hb4.cell;have z4:=hb4.frozen;by_cases hpk:0<Z ids/\0<=b
  case' pos =>
   obtain⟨n,hn⟩:=Int.eq_ofNat_of_zero_le hpk.2;have hm:=Nat.mod_lt n hpk.1;have xJ:Hid (i=ids[n%Z ids]):=aY (by rw[HI.aX,bV hpk,hn,Int.toNat_natCast,aE hm];rfl);obtain⟨bi,oi,ci2,cs,e1,-,-,hcs,d⟩:=(HL.aX.is.to (bf.cz kA3 (λb=>¬H b)) (λ_ h=>h) (λ_ _ h=>h) bG).at _ hm bG;injection e1 with e1 e2 e3;subst e1 e3;have ecs:cs=gF i:=xJ.aX▸hcs.now;subst ecs;have p:∀j,j<3->N.cell? ⟨bi,oi+n%Z ids*3+j,U⟩=(gF i)[j]?:=λj hj=>d N (bf.rf _ _) j hj
   have p0:N.cell? ⟨bi,oi+n%Z ids*3,U⟩=I (G J i.1):=p 0 bG;have tA:(0:Int)<Z ids:=aZ;have hn0:(0:Int)<=b:=hpk.2;have hr:Int.tmod b (Z ids:Int)=((n%Z ids:Nat):Int):=by rw[Int.tmod_eq_emod_of_nonneg hn0,hn];simp
   clear d xJ HI hpk hcs e2 hn;go_upto_region 8 with fail;have iU:=((hb4.cH 0 (G J i.1)).cH 1 (G E (i.2.1:Int))).cH 2 (G E (i.2.2:Int));have ky:=((hb2.far (p:=⟨D (L T),0,U⟩) (Nat.ne_of_lt hg) (G J i.1)).far (p:=⟨D (L T),1,U⟩) (Nat.ne_of_lt hg) (G E (i.2.1:Int))).far (p:=⟨D (L T),2,U⟩) (Nat.ne_of_lt hg) (G E (i.2.2:Int));have k4:=((kB.setCell (p:=⟨D (L T),0,U⟩) (bP _) (G J i.1)).setCell (p:=⟨D (L T),1,U⟩) (bP _) (G E (i.2.1:Int))).setCell (p:=⟨D (L T),2,U⟩) (bP _) (G E (i.2.2:Int));go_upto_region 9 with fail;generalize ax _ _ _=w4 at *;replace iU:bn w4 (D (L T)) 42 #[G J i.1,G E (i.2.1:Int),G E (i.2.2:Int)]:=iU;clear p p0 tA hn0 hr hm q1 q4 z4;generalize (I ⟨bi,oi,U⟩:Option Addr)=Ai at *;go_upto_region 9 with fail
  case' neg =>
   have hi0:i=(0,0,0):=by rw[HI.aX,bQ hpk]
   have iU:bn N (D (L T)) 42 #[G J i.1,G E (i.2.1:Int),G E (i.2.2:Int)]:=by rw[hi0];exact hb4
   clear HI hi0;have ky:=hb2;have k4:=kB;have hpk:Z ids=0\/Z ids≠0/\b<0:=aZ;rcases hpk with Hf|⟨Hf,hp1⟩
   case' inl => have hp1:¬(0:Int)<Z ids:=aZ;clear Hf
   case' inr => have hp2:(0:Int)<Z ids:=aZ;have hp3:¬(0:Int)<=b:=aZ;clear Hf hp1
   all_goals
    go_upto_region 9 with fail
    clear q1 q4 z4
    generalize N=w4 at *
  all_goals
   have fC:=gG.aX.more (Z':=λx=>(H x\/x=D (L W))\/x=D (L T)) k4 λx hx=>hx.imp id λe=>⟨aZ,by rw[e];exact iU.lt⟩
   have kA4:=Q8.tr k4
   have CD:=aY (avC fC hp aZ ⟨z,a,b,e,f⟩ _ _ hc (mq _ _ _ _ Mv.aX.now kA4) (fO _ _ _ _ hf kA4) hel i fi)
   simp only at CD
   generalize oF O z a b e i=X at *
   obtain⟨XO,er⟩:=X
   simp only at CD HP
   have q5:=iU.cell
   have q6:=ky.cell
   go_wp2_with fail
   refine CD.aX.mono ?_
   rintro _ w5⟨rfl,hQ⟩
   have Ko:bf (λb=>¬H b/\¬C b) W w5:=(bf.cz kA4 _).tr (hQ.2.more λb h=>⟨λhz=>h.1 (aI (aI hz)),h.2⟩)
   have jS:=iU.cF hQ.2 λh=>h.1 (aJ rfl)
   have nF:=ky.cF hQ.2 λh=>h.1 (aI (aJ rfl))
   have gL:=aY hQ.1
   have rL:=HL.aX.dl.to Ko (λ_ h=>h.1) (λ_ _ h=>h) bG
   have hs5:=Ko.size
   have CF:=aY (afU l i _ w5 rL.bD aZ)
   have HU:=aY Ko
   have hD:=aia l i
   have q7:=jS.cell
   have q8:=nF.cell
   clear q5 q6 iU ky CD hQ Ko fC gG
   generalize findD l i=t at *
   go_wp2_with fail
   apply eu CF.aX (K.rf _)
   intro w6 k6 k6'
   replace jS:=jS.bM k6
   replace nF:=nF.bM k6
   replace rL:=rL.st k6
   have q7:=jS.cell
   have q8:=nF.cell
   clear CF k6' hb2 hb4 hf
   have M:er≠0\/er=0/\t=Z l\/er=0/\t<Z l:=aZ
   rcases M with M|⟨rfl,M⟩|⟨rfl,M⟩
   .have Q:Hid (vM C par bj gw R (k+588) H W (ak (au #[F Al (Z l) cl,_])) w6):=aY (by
     rw[HP.aX,bQ aZ];exact vM.same gL.aX (λb h=>aI (aI h)) HU.aX k6 HL.aX)
    have Kl:(er != 0)=true:=by simpa using M
    clear M;go_wp2;go_ret2;exact Q.aX
   .have Q:Hid (vM C par bj gw R (k+588) H W (ak (au #[F Al (Z l) cl,_])) w6):=aY (by
     rw[HP.aX,bQ aZ];exact vM.same gL.aX (λb h=>aI (aI h)) HU.aX k6 HL.aX)
    subst M;go_wp2;go_ret2;exact Q.aX
   have Kl:¬(t:Int)=Z l:=aZ
   have Wm:(t:Int)<Z l:=aZ
   have uv:Hid (R=(XO,yz l t z e,ids)):=aY (by rw[HP.aX,bV ⟨rfl,M⟩])
   have kE:=K.new w6 (aq #[] 67)
   have h0:=ahu (K.rf w6) 67
   have Hj:=rL.st kE
   go_upto_region 13 with fail
   go_wp2_with (at_builtin;refine avF rfl _ _ 52 rfl _ _ 7 64 Wn rfl rfl h0 rfl Hj kE.size aZ ?_)
   intro v7 w7 ke k7 FN
   have M3:=k6.tr (kE.tr k7)
   obtain⟨g,c7,rfl⟩:=ke.UB aZ
   obtain⟨bw,sH,-,hE7⟩:=id ke
   obtain⟨cs,hcd,-,⟨vd,rfl,BH⟩,hcs⟩:=(hE7 w7 (bf.rf _ _)).get t M
   obtain⟨p7,z7⟩:=Dw sH
   have hcs:∀j,j<7->bw.flatten[t*7+j]?=(Kt l[t] vd).toList[j]?:=hcs
   have p:∀j,j<7->w7.cell? ⟨g,t*7+j,U⟩=(Kt l[t] vd)[j]?:=λj hj=>by rw[p7 _ (by rw[sH.1];show _<Z l*7;omega),hcs j hj,aD]
   have cV:=nF.bM (kE.tr k7)
   have pY:D (L w5)<=g:=cQ k6.size (FN g rfl)
   have HV:=aY BH
   have HE7:=aY hE7
   have Wo:=aY ke
   have q8:=cV.cell
   clear p7 hcs BH hE7 ke h0 Hj sH rL q7 jS nF kE k7 FN k6
   have key:=aY λq (hq:q<7) (u:aQ) (y:il) hy l9 (e9:yz l t z e=l9) (e8:l.set t y=l9)=>show Hid (vM C par bj gw R (k+588) H W (ak (au #[F (I ⟨g,0,U⟩) (Z l) c7,F Ai (Z ids) ci])) (aV w7 ⟨g,t*7+q,U⟩ u))from by have cX:=Wo.aX.dx M (q:=q) hq (u:=u) (y:=y) hy;rw[e8]at cX;rw[uv.aX,e9];exact aY (vM.aX gL.aX (λb h=>aI (aI h)) HU.aX (M3.setCell (p:=⟨g,t*7+q,U⟩) pY u) HL.aX cX (λb h hz=>h (aI hz)) λb hb=>aaM)
   by_cases tz:z=11
   .subst tz;have Q:=key.aX 5 bG (ar aA) { l[t]with eC:=true } (λW cs u h=>am6) _ rfl (Xr M λd=>{ d with eC:=true }).symm;have p5:w7.cell? ⟨g,t*7+5,U⟩=I (ar l[t].eC):=p 5 bG;clear key p;go_wp2;go_ret2;exact Q.aX
   by_cases h12:z=12
   .subst h12;have Q:=key.aX 6 bG (ar aA) { l[t]with gone:=true } (λW cs u h=>am6) _ rfl (Xr M λd=>{ d with gone:=true }).symm;have p5:w7.cell? ⟨g,t*7+6,U⟩=I (ar l[t].gone):=p 6 bG;clear key p;go_wp2;go_ret2;exact Q.aX
   by_cases lL:z=10
   case neg =>
    have g11:(z==11)=false:=by simpa using tz
    have g12:(z==12)=false:=by simpa using h12
    have g10:(z==10)=false:=by simpa using lL
    have Q:Hid (vM C par bj gw R (k+588) H W (ak (au #[F (I ⟨g,0,U⟩) (Z l) c7,F Ai (Z ids) ci])) w7):=aY (by
     rw[uv.aX,show yz l t z e=l by unfold yz;rw[bQ lL,bQ tz,bQ h12]];exact vM.aX gL.aX (λb h=>aI (aI h)) HU.aX M3 HL.aX Wo.aX (λb h hz=>h (aI hz)) λb hb=>aaM)
    clear key p lL tz h12;go_wp2;go_ret2;exact Q.aX
   subst lL
   have hM7:∀b,D (L w7)<=b->¬H b:=λb hb=>hM b (by have:=M3.size;omega)
   have aFD:=(Mv.aX.up HU.aX (λ_ h=>h.1)).k M3
   have hd:iw (λb=>¬H b) eB l[t].es vd w7:=Fx.fix (λW' u=>by
    obtain⟨cs',h1,-,⟨ve,rfl,h2⟩,-⟩:=(HE7.aX W' (u.more λ_=>aI)).get t M;rw[hcd]at h1;injection h1 with h1;have:=congrArg (·[4]?) h1;simp at this;rw[this];exact h2) bG (by rintro x _ W'⟨v,rfl,A,c,rfl,-⟩;simp)
   have uA:=QQ.aX _ (dJ M)
   have HD4:=aY (Xr M λd=>{ d with es:=d.es++[e] })
   obtain⟨Ad,cd,rfl⟩:=hd.slice
   have hgX:g<D (L w7):=by obtain⟨_,h,-⟩:=Wo.aX;exact (h.lt g rfl).2
   clear key HV hcd
   go_upto_region 16 with fail
   have p9:∀X,K w7 X->∀j,j<7->X.cell? ⟨g,t*7+j,U⟩=(Kt l[t] (F Ad (Z l[t].es) cd))[j]?:=λX B j hj=>by rw[<- p j hj];exact B.cell hgX
   have q9:=λX (B:K w7 X)=>(cV.bM B).cell
   generalize hx:l[t]=x at *
   have qs:=aB q9 (aB p9 (aB Wm M))
   refine WD 13 8 12 x.es _ e 43 FT hd hM7 aZ ?_
   iterate 2 refine bB.i ?_
   refine bB.emp FT ?_
   iterate 5 refine bB.i ?_
   refine bB.s ?_
   iterate 2 refine bB.i ?_
   refine bB.row 43 _ _ _ FT rfl bG _ e rfl rfl (λV X B hp=>?_) ?_ (Yl hM7)
   .simp only[dN,bZ,cC,dK,dL,bS]at hp;show tD _ _ _ (V 10) _;rw[hp.1];exact⟨rfl,λW' u=>⟨_,rfl,(aFD.k B) W' u⟩⟩
   refine bB.s ?_
   clear qs
   refine⟨λ_ _=>trivial,λ_ _=>trivial,λV X B hp=>?_,λV X B hp=>?_,λV X B S iR hA=>?_⟩
   .exact aaK
   .exact aaL
   simp only[bZ,cC,dF,bS,Nat.reduceAdd]at hA
   obtain⟨Y,hY⟩:∃Y:Nat->Prop,∀b,Y b ↔ ¬(H b\/D (L w5)<=b/\b<D (L X)/\b≠g):=⟨_,λ_=>Iff.rfl⟩
   have hYg:Y g:=(hY g).2 λh=>h.elim (λh=>by have:=hlt g (aI h);omega) λh=>h.2.2 rfl
   have hOx:=(Wo.aX.st B).less (Y':=Y) λb h hz=>(hY b).1 h (aI hz)
   have hOe:iw Y eB _ (V 12) X:=S.Dk (λb h=>aI λhz=>(hY b).1 h (aI hz)) λb hb h=>(hY b).1 h (aJ ⟨by have:=iR b hb;have:=M3.size;omega,(S.blk b hb).2,by have:=iR b hb;omega⟩)
   obtain⟨A9,c9,e9⟩:=S.slice
   rw[fg,List.length_singleton]at e9
   have cX:=hOx.dx M (q:=4) bG (u:=V 12) (y:={ x with es:=x.es++[e] }) λW' cs u h=>by obtain⟨ve,rfl,he⟩:=h;rw[hx];exact⟨_,rfl,hOe.fx bG W' ((bf.dx (X:=Y) hYg _ _).tr (u.more λk h=>h.elim id λe=>e▸hYg))⟩
   have k9:=(M3.tr B).setCell (p:=⟨g,t*7+4,U⟩) pY (V 12)
   have hs9:D (L (X.setCell ⟨g,t*7+4,U⟩ (V 12)))=D (L X):=SC
   have Q:Hid (vM C par bj gw R (k+588) H W (ak (au #[F (I ⟨g,0,U⟩) (Z l) c7,F Ai (Z ids) ci])) (X.setCell ⟨g,t*7+4,U⟩ (V 12))):=aY (by
    rw[uv.aX,show yz l t 10 e=l.set t { x with es:=x.es++[e] }from HD4.aX];exact vM.aX gL.aX (λb h=>aI (aI h)) HU.aX k9 HL.aX cX (λb h=>(hY b).2 λhz=>h (hz.imp id λhz=>⟨hz.1,by rw[hs9];exact hz.2.1⟩)) λb hb=>aaM)
   rw[e9]at Q
   have z9:X.frozen? ⟨g,t*7+4,U⟩=false:=by obtain⟨_,h,-⟩:=hOx;exact (Dw h).2 _
   have p8:X.cell? ⟨g,t*7+4,U⟩=I (F Ad (Z x.es) cd):=p9 X B 4 bG
   have hA:=aB e9 hA
   have qs:=aB p8 (aB z9 (aB Wm M))
   clear p9 q9 hOx hOe cX S hd
   refine bN.p ?_
   refine bN.p ?_
   refine bN.s ?_
   refine bN.h ?_
   go_wp2
   go_ret2
   exact Q.aX
structure nG where
 bA:Int
 a:Int
 b:Int
 n:Int
 e:List eD
 f:List fo
structure xH where
 err:Int
 id:bY
 status:Int
 batch:List (List eD)
 long:Int
 busy:Int
 up:Bool
 deriving DecidableEq
def ll(e:Int):xH:=⟨e,(0,0,0),0,[],0,0,az⟩
abbrev qE:=cT×List bY
def s7(ids:List bY)(O:cT)(i:bY)(e:Int):qE×xH:=if e=0 then ((O,ids++[i]),⟨0,i,0,[],0,0,az⟩)else ((O,ids++[(0,0,0)]),ll e)
def AF(ids:List bY)(n:Int):Option bY:=if 0<=n then ids[n.toNat]? else U
def xB(s:qE)(x:nG):qE×xH :=
 if x.bA=1 then (((oZ s.1 x.a).1,s.2),ll (oZ s.1 x.a).2)
 else if x.bA=2 then (((nH s.1 x.a x.b).1,s.2),ll (nH s.1 x.a x.b).2)
 else if x.bA=3 then (((mE s.1 sy x.a x.b).1,s.2),ll (mE s.1 sy x.a x.b).2)
 else if x.bA=4 then (((mE s.1 sX x.a x.b).1,s.2),ll (mE s.1 sX x.a x.b).2)
 else if x.bA=5 then (((mE s.1 s6 x.a x.b).1,s.2),ll (mE s.1 s6 x.a x.b).2)
 else if x.bA=6 then (((xi s.1 x.a).1,s.2),ll (xi s.1 x.a).2)
 else if x.bA=7 then (((xb s.1 x.a).1,s.2),ll (xb s.1 x.a).2)
 else if x.bA=8 then ((zP s.1,s.2),ll 0)
 else if x.bA=9 then s7 s.2 (lQ s.1 x.a).1 (lQ s.1 x.a).2.1 (lQ s.1 x.a).2.2
 else if x.bA=13 then (if x.b<0 then s7 s.2 s.1 (0,0,0) 1 else s7 s.2 (oC s.1 x.a x.b.toNat x.f).1 (oC s.1 x.a x.b.toNat x.f).2.1 (oC s.1 x.a x.b.toNat x.f).2.2)
 else if x.bA=14 then (if x.b<0 then s7 s.2 s.1 (0,0,0) 1 else s7 s.2 (uE s.1 x.a x.b.toNat).1 (uE s.1 x.a x.b.toNat).2.1 (uE s.1 x.a x.b.toNat).2.2)
 else if x.bA=16 then (((jU s.1 x.a).1,s.2),⟨(jU s.1 x.a).2.2,(0,0,0),0,(jU s.1 x.a).2.1,I2 (jU s.1 x.a).1 x.a,0,az⟩)
 else if x.bA=17 then (s,⟨0,(0,0,0),0,[],Z (qI s.1 x.a).bq,Jb s.1 x.a,(eK s.1 x.a).isSome⟩)
 else match AF s.2 x.n with
  | none=>(s,ll 1)
  | some i =>
   if x.bA=10 then (((eS s.1 x.a i λl=>ij l i x.e).1,s.2),ll (eS s.1 x.a i λl=>ij l i x.e).2.2)
   else if x.bA=11 then (((eS s.1 x.a i λl=>iK l i).1,s.2),ll (eS s.1 x.a i λl=>iK l i).2.2)
   else if x.bA=12 then (((eS s.1 x.a i λl=>jD l i).1,s.2),ll (eS s.1 x.a i λl=>jD l i).2.2)
   else if x.bA=15 then (s,⟨(yj s.1 x.a i).2,(0,0,0),(yj s.1 x.a i).1,[],0,0,az⟩)
   else (s,ll 1)
def uJ:qE->List nG->List xH
 | _,[]=>[]
 | s,x :: r=>(xB s x).2 :: uJ (xB s x).1 r
def AG:qE->List nG->qE
 | s,[]=>s
 | s,x :: r=>AG (xB s x).1 r
theorem ahv:∀(l:List nG) s,Z (uJ s l)=Z l
 | [],_=>rfl
 | x :: l,s=>by simp[uJ,ahv l]
theorem ahw:∀(l m:List nG) s,uJ s (l++m)=uJ s l++uJ (AG s l) m
 | [],_,_=>rfl
 | x :: l,m,s=>by simp[uJ,AG,ahw l]
theorem aib:∀(l m:List nG) s,AG s (l++m)=AG (AG s l) m
 | [],_,_=>rfl
 | x :: l,m,s=>by simp[AG,aib l]
def pS:ByteArray:=⟨#[112]⟩
section
open Go Go.RowKit Go.ChangeShapes Go.WideShapes Go.ChangeAt
def UC(c:nG):Prop:=dA c.bA/\dA c.a/\dA c.b/\dA c.n/\(∀a∈c.e,nv a)/\(∀t∈c.f,jN t)
abbrev oO(c:nG)(ve vf:aQ):Array aQ:=#[G J c.bA,G J c.a,G J c.b,G J c.n,ve,vf]
def Wp:fy nG where
 size:=6
 rel c cs w:=∃ve vf,cs=(oO c ve vf).toList/\iI c.e ve w/\fZ c.f vf w
 len:=by rintro _ _ _⟨ve,vf,rfl,_⟩;rfl
 one:=by rintro x _ _⟨ve,vf,rfl,⟨_,_,rfl,_⟩,⟨_,_,rfl,_⟩⟩ u j;simp at j;rcases j with rfl|rfl|rfl|rfl|rfl|rfl <;> rfl
 st:=by rintro _ _ _ _⟨ve,vf,rfl,h1,h2⟩ k;exact ai3
abbrev oP(x:xH)(vb:aQ):Array aQ:=#[G J x.err,G J x.id.1,G E (x.id.2.1:Int),G E (x.id.2.2:Int),G J x.status,vb,G J x.long,G J x.busy,ar x.up]
def Iq:fy xH where
 size:=9
 rel x cs w:=∃j,cs=(oP x j).toList/\bD eB x.batch j w
 len:=by rintro _ _ _⟨j,rfl,_⟩;rfl
 one:=by rintro x _ _⟨j,rfl,⟨_,_,rfl,_⟩⟩ u hu;exact ajA
 st:=by rintro _ _ _ _⟨j,rfl,t⟩ k;exact⟨j,rfl,cM t k⟩
def ans(x:xH)(v:aQ)(w:aP):Prop:=∃j,v=av (oP x j)/\bD eB x.batch j w
end
def Ce(par bj:List Int):Bool:=decide (Z par<=6)&&decide (Z bj<=8)&&iH par&&mU par bj
theorem an5:jM (fA (eN eZ))<=60000:=by decide +kernel
theorem ay6{par bj}(j:Z par<=6)(t:Z bj<=8):Ce par bj=(sD par bj 60000==0):=by unfold Ce sD;rw[bV an5];cases iH par <;> cases mU par bj <;> simp[j,t]
theorem auq par bj z y w(h1:bD eH par z w)(h2:bD eH bj y w) :aK aR 15 #[z,y] w λe j=>e=ak (ar (Ce par bj))/\K w j:=by
 have kk:=K.rf w;by_cases A:Z par<=6
 case neg =>
  have hg:Ce par bj=false:=by unfold Ce;simp[A]
  have Q:6<(Z par:Int):=aZ;exact am7
 have Q:¬6<(Z par:Int):=aZ;by_cases M:Z bj<=8
 case neg =>
  have hg:Ce par bj=false:=by unfold Ce;simp[M]
  have S:8<(Z bj:Int):=aZ;exact am7
 have S:¬8<(Z bj:Int):=aZ;have C:=aY (afj par bj 60000 z y w h1 h2 aZ aZ aZ);have B:=aY (ay6 A M);have O:Hid (∀e j,yK par bj 60000 w e j->if sD par bj 60000=0 then ∃H own,e=ak (au #[aj (I ⟨H.gw,0,U⟩),G J 0])/\cS H own (mC par bj 60000) j eJ/\(∀k,k<D (L w)->own k=0)/\K w j else e=ak (au #[aj U,G J (sD par bj 60000)])/\K w j):=aY λ_ _ h=>h
 generalize yK par bj 60000 w=V at *;generalize sD par bj 60000=W at *;generalize Ce par bj=R at *;obtain⟨A1,c1,rfl⟩:=bH h1;obtain⟨A2,c2,rfl⟩:=bH h2;go_in;go_wp2_with fail
 refine C.aX.mono ?_;intro e T t;replace t:=O.aX _ _ t;split at t
 .next hx =>
  subst hx;obtain⟨H,own,rfl,-,-,k1⟩:=t;obtain rfl:R=true:=B.aX;go_wp2;go_ret;exact⟨rfl,k1⟩
 next hx =>
 obtain⟨rfl,k1⟩:=t;have N:R=false:=by rw[B.aX];simpa using hx
 subst N;go_wp2;go_ret;exact⟨rfl,k1⟩
def DY(x:nG):Nat:=if x.bA=8 then 588 else 1
def zV(l:List nG):Nat:=(l.map DY).sum
theorem ahx(l m:List nG):zV (l++m)=zV l+zV m:=by simp[zV]
theorem axa(l:List nG) n:zV (l.take n)<=zV l:=by
 conv=>rhs;rw[<- List.take_append_drop n l,ahx]
 omega
section
variable {P:Program}{Q:Exit->Act->aP->Prop}
theorem ae1{id:Nat}{ops:Array Oper}{A:Act}{w:aP}(m z:Nat)(c:aQ)(f:FuncId)(args:Array aQ)(Y:Nat->Prop)(C:aP->Prop){o:Oper}{H:List Nat×List (Nat×Nat)}{y:List (List Nat×List (Nat×Nat))}{n:Nat}
 (X:∀W W',C W->K W W'->C W') (R:∀W,K w W->aK P f args W λe w'=>e=ak c/\bf Y W w'/\C w')
 (h:bB P A (bf Y w) (bf Y) [z] (λr xs t=>(∀W,tab t z c W)/\(∀V W,(∀j∈H.1,tab t j (V j) W)->(aL (bR H.2 A V) (bT o.op o.type)).run P W=.ok (.enter f args) W) /\
  ∀V W,bf Y w W->C W->dF V W 0 t->bN P A (λV W=>Q .normal (iO V ops.toList 0 A) W) m r xs V W) m ops.toList y [])
 (hq:TW ops=y:=by conv=>lhs;cbv) (hz:ops[z]?=I o:=by rfl) (hx:y[z]?=I H:=by rfl) (hg:o.guard=none:=by rfl)
 (hn:A.tmps.size=n:=by rfl) (hm:P.follows .mixedOrders=true:=by kernel_rfl) (hok:rV ops n=true:=by kernel_rfl) (T:tR ops y=true:=by kernel_rfl) (gT:Ff y m ops.size=true:=by kernel_rfl) (yS:Ca y [z] m=true:=by kernel_rfl) (nB:m<=ops.size:=by decide) :
 (Code.region id ops aA).wp P Q A w :=
 Kz m [z] (bf Y w) (bf Y) (λk _ W=>if k=0 then K w W else C W) y n
  (λ_ _ h k=>h.tr (bf.cz k _)) (λ_ _ k=>bf.cz k _) (λk vs W W' h O=>by
   split at h
   .next B=>rw[bV B];exact h.tr O
   next B=>rw[bQ B];exact X _ _ h O) (bf.rf _ _) (λ_=>K.rf w)
  (bB.imp (λr xs t ⟨B,h1,S⟩=>⟨⟨⟨o,H,hz,hx,hg,λV W N hK hp=>by
   rw[h1 V W hp];exact (R W hK).mono λe w' ⟨e1,u,M⟩=>⟨c,e1,N.tr u,u,M,B _⟩⟩,trivial⟩,λV W N M hA=>S V W N M hA⟩) _ _ _ _ h) hn hm hok T gT yS bu nB
theorem asC{α:Type}{S:fy α}{Y:Nat->Prop}{base:Nat}{e:TypeId}{w:aP}{id:Nat}{ops:Array Oper}{y:Act}(m z:Nat)(l:List α)(v:aQ)(x:α)(C:TypeId){H:aQ}{size bytes:Nat}(T:gQ P C e H size bytes){s u:Operand}{o:Oper}{B:List Nat×List (Nat×Nat)}{A:List (List Nat×List (Nat×Nat))}{n:Nat}
 (hO:bK Y base e S l v w) (hb:base<=D (L w)) (O:(Z l+1)*(bytes+1)<=140737488355328)
 (h:bB P y (o8 v w) (λW W'=>W.grownBy W' (aW v)) [z] (λr xs t=>(∀v W,tab t z v W)/\(∀V W,o8 v w W->(∀j∈B.1,tab t j (V j) W)->bR B.2 y V s=v/\fL (λk=>Y k\/aW v=I k) 0 e S x (bR B.2 y V u) W) /\
  ∀V W,o8 v w W->bK Y base e S (l++[x]) (V z) W->(∀b,aW (V z)=I b->aW v=I b\/D (L w)<=b)->dF V W 0 t->bN P y (λV W=>Q .normal (iO V ops.toList 0 y) W) m r xs V W) m ops.toList A [])
 (hq:TW ops=A:=by conv=>lhs;cbv) (hz:ops[z]?=I o:=by rfl) (hx:A[z]?=I B:=by rfl) (hop:o.op=.call { callee:=.builtin .append,args:=#[s,u],argTypes:=#[C,C] }:=by rfl) (hg:o.guard=none:=by rfl) (X:S.size=size:=by rfl)
 (hn:y.tmps.size=n:=by rfl) (hm:P.follows .mixedOrders=true:=by kernel_rfl) (M:rV ops n=true:=by kernel_rfl) (hpl:tR ops A=true:=by kernel_rfl) (R:Ff A m ops.size=true:=by kernel_rfl) (N:Ca A [z] m=true:=by kernel_rfl) (nB:m<=ops.size:=by decide) :
 (Code.region id ops aA).wp P Q y w:=Gq m z l v x C T A n hO hb O h hz hx hop hg X hn hm M hpl R N nB
end
def Ra(x:xH):Prop:=Z x.batch<=1000000/\∀e∈x.batch,Z e<=1000000
section
variable {C C' aa Z':Nat->Prop}{par bj:List Int}{gp k j:Nat}{s s':qE}{W W':aP}{O':cT}
def iT(C:Nat->Prop)(par bj:List Int)(t:Nat)(s:qE)(k:Nat)(y:Nat->Prop)(W:aP):Prop :=
 (Z s.2<=k/\∀i∈s.2,ew i)/\∃gw j,bn W t 93 #[aj (I ⟨gw,0,U⟩),j]/\bK (λ_=>True) 0 42 dQ s.2 j W /\
  dY (λb=>C b\/b=t\/aW j=I b) par bj gw s.1 k y W/\¬C t/\∀b,aW j=I b->b≠t/\¬C b
theorem iT.to(h:iT C par bj gp s k aa W)(u:bf C W W')(A:∀b,Z' b->aa b\/D (L W)<=b/\b<D (L W'))(P:∀b,C' b->C b\/D (L W)<=b/\b<D (L W'))(O:∀b,D (L W)<=b->Z' b->¬C' b):iT C' par bj gp s k Z' W':=by obtain⟨H,gw,B,j,t,M,N,y⟩:=h;have:=j.lt;have:=t.blk;refine⟨H,gw,B,j.cF u N,t.to u (λ_ _=>trivial) (λb e=>(y b e).2) λ_ _ _=>aI trivial,M.to (u.more λ_ h=>aI h) A (λb j=>?_) (λb j hz z=>?_),λz=>?_,λb e=>⟨(y b e).1,λz=>?_⟩⟩;all_goals grind
theorem iT.lt(h:iT C par bj gp s k aa W):∀b,aa b\/C b->b<D (L W):=λb t=>by obtain⟨-,gw,y,-,-,j,-⟩:=h;exact j.lt b (t.imp id aI)
theorem iT.st(h:iT C par bj gp s k aa W)(u:K W W'):iT C par bj gp s k aa W':=h.to (bf.cz u _) (λ_ h=>aI h) (λ_ h=>aI h) λb j hz=>absurd (h.lt b (aI hz)) (by omega)
theorem iT.over(h:iT C par bj gp s k aa W):∃gw y,bn W gp 93 #[aj (I ⟨gw,0,U⟩),y]/\∃t:Nat->Prop,t gp/\(∀b,C b->t b)/\dY t par bj gw s.1 k aa W /\∀ {W' O' j Z'},dY t par bj gw O' j Z' W'->bf (λb=>¬aa b/\¬t b) W W'->k<=j->iT C par bj gp (O',s.2) j Z' W':=by obtain⟨⟨H,B⟩,gw,y,z,O,N,P,Q⟩:=h;refine⟨gw,y,z,_,aJ (aI rfl),λ_ h=>aI h,N,λM u A=>⟨⟨cQ H A,B⟩,gw,y,z.cF u λh=>h.2 (aJ (aI rfl)),O.to u (λ_ _=>trivial) (λb e h=>h.2 (aJ (aJ e))) (λ_ _ _=>aI trivial),M,P,Q⟩⟩
theorem iT.mono(h:iT C par bj gp s k aa W)(hk:k<=j):iT C par bj gp s j aa W:=by obtain⟨⟨z,y⟩,gw,A,H,M,t,B⟩:=h;exact⟨⟨cQ z hk,y⟩,gw,A,H,M,⟨t.1.mono hk,t.2⟩,B⟩
theorem iT.push{O:cT}{ids:List bY}{gw:Nat}{j v':aQ}{i:bY}(T:Z ids+1<=k)(Q:∀a∈ids,ew a)(hi:ew i)(hb:bn W gp 93 #[aj (I ⟨gw,0,U⟩),j])(y:dY (λb=>C b\/b=gp\/aW j=I b) par bj gw O k aa W)(N:¬C gp)(B:∀b,aW j=I b->b<D (L W)/\b≠gp/\¬C b)(u:o8 j W W')(z:bK (λ_=>True) 0 42 dQ (ids++[i]) v' W')(hat:∀b,aW v'=I b->aW j=I b\/D (L W)<=b) :iT C par bj gp (O,ids++[i]) k aa (aV W' ⟨gp,1,U⟩ v'):=by
 have:=hb.lt;have H:=y.lt;have M:=(hb.cF u λe=>(B _ e).2.1 rfl).cH 1 v';have t:bf (λb=>b=gp) W' (aV W' ⟨gp,1,U⟩ v'):=bf.dx (X:=λb=>b=gp) rfl 1 _;have hz:=u.size;have:=t.size;have:=z.blk;have A:∀b,aW v'=I b->b≠gp/\¬C b:=λb e=>by grind
 refine⟨⟨bL,λa V=>?_⟩,gw,v',M,z.to t (λ_ _=>trivial) (λb e h=>(A b e).1 h) λ_ _ _=>aI trivial,y.to ((u.more λb e=>aJ (aJ e)).tr (t.more λb e=>aJ (aI e))) (λ_ h=>aI h) (λb h=>?_) (λb h hz=>absurd (H b (aI hz)) aZ),N,A⟩;all_goals grind
def LK(C:Nat->Prop)(par bj:List Int)(z:Nat)(y:qE)(A:Nat)(x:xH)(t:Nat->Prop)(W:aP)(e:Ending)(w':aP):Prop :=
 ∃va lo j,e=ak va/\D (L W)<=lo/\lo<=j/\j<=D (L w')/\Fx (λk=>k<lo\/j<=k) (λW=>ans x va W) w'/\Ra x/\iT C par bj z y A (λb=>t b\/lo<=b/\b<j) w'/\bf (λb=>¬t b/\¬C b) W w'
def Cv(C:Nat->Prop)(par bj:List Int)(z:Nat)(y:qE)(t:Nat)(x:xH)(j:Nat->Prop)(W:aP)(e:Ending)(w':aP):Prop :=
 e=ak (av (oP x (F U 0 0)))/\x.batch=[]/\iT C par bj z y t j w'/\bf (λb=>¬j b/\¬C b) W w'
theorem Cv.q{x e}(h:Cv C par bj gp s' k x aa W e W'):LK C par bj gp s' k x aa W e W':=by
 obtain⟨B,M,t,j⟩:=h;have z:=t.lt;have A:iT C par bj gp s' k (λb=>aa b\/D (L W)<=b/\b<D (L W)) W':=by refine t.to (bf.rf _ _) (λb y=>aI (y.elim id λh=>absurd h.1 aZ)) (λ_ h=>aI h) λb y hz H=>absurd (z b (aJ H)) aZ
 exact⟨_,D (L W),D (L W),B,bP _,bP _,j.size,λ_ _=>⟨_,rfl,by grind [iJ]⟩,by grind [Ra],A,j⟩
def apa(C:Nat->Prop)(par bj:List Int)(t g:Nat)(z A:Nat->Prop)(W W1:aP):Prop :=
 ∀j y (Z' Z2:Nat->Prop) w' (us:List aQ),Z us=9->(∀b,Z2 b->Z' b)->iT (λb=>C b\/b=g) par bj t j y Z' w'->bf (λb=>¬A b/\¬(C b\/b=g)) W1 w' ->
  iT C par bj t j y Z2 (ei w' g 0 us)/\bf (λb=>¬z b/\¬C b) W (ei w' g 0 us)/\∀i,(ei w' g 0 us).cell? ⟨g,i,U⟩=us.toArray[i]?
theorem iT.frame(h:iT C par bj gp s k aa W)(k1:K W W'){g}(hg:D (L W)<=g){t cs}(hb:bn W' g t cs)(R:cs.size=9)(j:Nat->Prop)(O:∀b,aa b->j b)(N:∀b,j b->aa b\/D (L W)<=b/\b<D (L W')/\b≠g):iT (λb=>C b\/b=g) par bj gp s k j W'/\apa C par bj gp g aa j W W':=by
 have:=hb.lt;have:=h.lt;refine⟨h.to (bf.cz k1 _) (λb hb=>(N b hb).imp id λh=>⟨h.1,h.2.1⟩) (λb hb=>hb.imp id λe=>aZ) λb hb hz z=>?_,λS k' Y Z2 M B Q hz y u=>?_⟩
 .grind
 have H:=hb.cF u λh=>h.2 (aJ rfl)
 have A:=λb hz=>y.lt b (aI hz)
 have u9:=bf.sets (X:=λk=>k=g) rfl B 0 M;exact⟨y.to (u9.more λ_ h=>aJ h) (λb h=>aI (hz b h)) (λ_ h=>aI (aI h)) λb hb h=>absurd (A b (hz b h)) aZ,
  ((bf.cz k1 _).tr (u.more λb h=>⟨λhz=>h.1 (O b hz),λz=>h.2 (aI z)⟩)).ir u9 λb hb e=>absurd hb aZ,(DD H (Q.trans R.symm)).cell⟩
end
section
variable {C aa:Nat->Prop}{par bj:List Int}{gp k:Nat}{s:qE}{W:aP}{O:cT}{ids:List bY}
abbrev EV:Array aQ:=#[G J 0,G J 0,G E 0,G E 0,G J 0,F U 0 0,G J 0,G J 0,ar az]
theorem aA4(ids:List bY)(O:cT)(i:bY)(e:Int):∃j,(j=if e=0 then i else (0,0,0))/\s7 ids O i e=((O,ids++[j]),⟨e,j,0,[],0,0,az⟩):=by
 unfold s7;by_cases t:e=0
 .grind
 rw[bQ t,bQ t];exact⟨_,rfl,rfl⟩
theorem Xc(h:iT C par bj gp (O,ids) k aa W)(hl:Z ids+1<=k)(hk:k<=1000000)(i:bY)(hi:ew i)(e:Int) :aK aR 123 #[aj (I ⟨gp,0,U⟩),dD i,G J e] W (Cv C par bj gp (s7 ids O i e).1 k (s7 ids O i e).2 aa W):=by
 obtain⟨j,H,hR⟩:=aA4 ids O i e;rw[hR];have fj:ew j:=by rw[H];split;exact hi;simp[ew,dA]
 have hz1:D (L (aU W (aq (eI j) 42)))=D (L W)+1:=bu;have M:=(bn.new W 42 (eI j)).alloc (aq EV 45);have A:=bn.new (aU W (aq (eI j) 42)) 45 EV;have z:=K.ou W (aq (eI j) 42) (aq EV 45);rw[hz1]at A;have HF:=aY (h.frame (g:=D (L W)+1) z aZ A rfl aa (λ_ h=>h) λ_ h=>aI h).2;obtain⟨⟨-,hfit⟩,gw,vi,t,B,Y,hc,hv⟩:=h;have EI:=λb t=>(B.blk b t).2
 have jg:=t.lt;replace Y:=Y.to (C':=λb=>(C b\/b=D (L W)+1)\/b=gp\/aW vi=I b) (bf.cz z _) (λ_ h=>aI h) (λb t=>by
  rcases t with (t|t)|t;exact aI (aI t);exact aJ ⟨aZ,t▸A.lt⟩;exact aI (aJ t)) λb t hz=>absurd (Y.lt b (aI hz)) aZ
 replace t:=t.below z jg;replace B:=B.st z;have hz:=z.size;have HV:=aY Y;have HB:=aY (aB t (aB M (aB A z)));have hq:∀X,o8 vi _ X->X.cell? ⟨gp,1,U⟩=I vi:=λX u=>by rw[(t.cF u λe=>(hv _ e).1 rfl).cell];rfl
 have js:∀X,o8 vi _ X->∀n,X.cell? ⟨D (L W),n,U⟩=(eI j)[n]?:=λX u=>(M.cF u λe=>aaN).cell
 clear Y hz1 t M A z hR;by_cases R:e=0
 case' pos =>
  obtain rfl:j=i:=by rw[H,bV R]
  have he':(e != 0)=false:=by simpa using R
  have ez:=True.intro;clear H R hi
 case' neg =>
  have he':(e != 0)=true:=by simpa using R
  rw[bQ R]at H;have ej:eI j=#[G J 0,G E 0,G E 0]:=by rw[H];rfl
  have ez:j.1=0/\j.2.1=0/\j.2.2=0:=by rw[H];exact⟨rfl,rfl,rfl⟩
  rw[ej]at hq js HB B HV HF hz;clear R hi H
 all_goals
  go_in
  go_upto_region 3 with fail
  generalize ay (ay W _) _=W3 at *
  have qs:=aB hq js
  refine asC 8 7 ids vi j 53 sK B (fw _) aZ ?_
  iterate 6 refine bB.i ?_
  refine bB.GZ (S:=dQ) (N:=λ_=>True) (D (L W3)) sK j (λ_ h=>h.size) (λb t=>⟨trivial,(B.blk b t).2⟩) (λV X y Q=>?_) ?_
  .simp only[dN,bZ,cC,dK,dL,bS]at Q;show tD _ _ _ (V 5) _;rw[Q.1];exact⟨rfl,λ_ _=>by first|rfl|exact congrArg Array.toList ej.symm⟩
  refine bB.s ?_
  clear qs
  refine⟨λ_ _=>trivial,λV X y Q=>?_,λV X y cX sR hA=>?_⟩
  .simp only[dN,bZ,cC,dK,dL,bS]at Q;exact⟨Q.1,Q.2.1.less λ_ _=>trivial⟩
  simp only[bZ,cC,dF,bS,Nat.reduceAdd]at hA
  obtain⟨A9,c9,T⟩:=cX.slice
  replace T:V 7=F A9 (Z ids+1) c9:=by simpa using T
  obtain⟨t,M,A,z⟩:=HB.aX
  have dB:=t.cF y λe=>(hv _ e).1 rfl
  have HP:=aY (iT.push hl hfit fj t HV.aX (λh=>h.elim hc λh=>aZ) (λb h=>⟨cZ (EI b h) hz,(hv b h).1,λh2=>h2.elim (hv b h).2 λh2=>by have:=EI b h;omega⟩) y cX sR)
  have u1:bf (λb=>b=gp) X (X.setCell ⟨gp,1,U⟩ (V 7)):=bf.dx (X:=λb=>b=gp) rfl 1 _
  have HU:=aY (show bf (λb=>¬aa b/\¬(C b\/b=D (L W)+1)) W3 (X.setCell ⟨gp,1,U⟩ (V 7))from (y.more λb e=>⟨λh=>HV.aX.apart b h (aJ (aJ e)),λh=>h.elim (hv b e).2 λh=>by have:=EI b e;omega⟩).tr (u1.more λb e=>⟨λh=>HV.aX.apart b h (aJ (aI e)),λh=>h.elim (λh=>hc (e▸h)) λh=>aZ⟩))
  have B1:=aY ((M.cF y λe=>aaN).cF u1 aZ)
  have B2:=aY ((A.cF y λe=>aaN).cF u1 aZ)
  rw[T]at HP HU B1 B2
  have hA:=aB hA T
  have qs:=aB (hq X y) dB.frozen
  clear hq js B HB t M A z dB u1 HV cX sR y
  refine bN.p ?_
  refine bN.p ?_
  refine bN.s ?_
  refine bN.h ?_
  clear hA qs T
  have jb:=aY (HF.aX _ _ _ aa _ [G J e,G J j.1,G E j.2.1,G E j.2.2,G J 0,F U 0 0,G J 0,G J 0,ar az] rfl (λ_ h=>h) HP.aX HU.aX)
  simp only[ei]at jb
  generalize X.setCell _ _=X9 at *
  have:=B1.aX.cell
  have:=B2.aX.frozen
  have:=B2.aX.cell
  clear HF HP HU
  try simp only[ez,Int.natCast_zero]at jb
  go_wp2
  obtain⟨hP,hU,e9⟩:=jb.aX
  refine aM (v:=av (oP ⟨e,j,0,[],0,0,az⟩ (F U 0 0))) (by simp[results,results123,go_sem,e9,ez]) rfl ?_
  exact⟨rfl,rfl,hP,hU⟩
def YO(j t:Nat->Prop)(g:Nat)(b:Nat):Prop:=¬(j b\/b=g)/\¬t b
structure OpF(C:Nat->Prop)(par bj:List Int)(gp gw:Nat)(s:qE)(k:Nat)(aa aS:Nat->Prop)(cs:Array aQ)(W W1:aP):Prop where
 k1:K W W1
 cell:∀X,bf (YO aa aS (D (L W))) W1 X->X.cell? ⟨gp,0,U⟩=I (aj (I ⟨gw,0,U⟩))/\(∀n,X.cell? ⟨D (L W),n,U⟩=cs[n]?)/\(∀n,X.cell? ⟨D (L W)+1,n,U⟩=EV[n]?)/\∀n,X.frozen? ⟨D (L W)+1,n,U⟩=az
 ov:dY aS par bj gw s.1 k (λb=>aa b\/b=D (L W)) W1
 EW:iT (λb=>C b\/b=D (L W)+1) par bj gp s k (λb=>aa b\/b=D (L W)) W1
 back:∀ {W' O' j Z'},dY aS par bj gw O' j Z' W'->bf (YO aa aS (D (L W))) W1 W'->k<=j->iT (λb=>C b\/b=D (L W)+1) par bj gp (O',s.2) j Z' W'
 up:∀ {X},bf (YO aa aS (D (L W))) W1 X->bf (YO aa (λb=>C b\/b=D (L W)+1) (D (L W))) W1 X
 own:∀X,bf (YO aa (λb=>C b\/b=D (L W)+1) (D (L W))) W1 X->(∀n,X.cell? ⟨D (L W),n,U⟩=cs[n]?)/\(∀n,X.cell? ⟨D (L W)+1,n,U⟩=EV[n]?)/\∀n,X.frozen? ⟨D (L W)+1,n,U⟩=az
 fin:apa C par bj gp (D (L W)+1) aa (λb=>aa b\/b=D (L W)) W W1
theorem iT.op(h:iT C par bj gp s k aa W)(cs:Array aQ):∃gw y,OpF C par bj gp gw s k aa y cs W ((aU W (aq cs 39)).alloc (aq EV 45)):=by
 have N:D (L (aU W (aq cs 39)))=D (L W)+1:=bu;have t:=(bn.new W 39 cs).alloc (aq EV 45);have j:=bn.new (aU W (aq cs 39)) 45 EV;have B:=K.ou W (aq cs 39) (aq EV 45);rw[N]at j;obtain⟨H,M⟩:=h.frame (g:=D (L W)+1) B aZ j rfl (λb=>aa b\/b=D (L W)) (λ_ h=>aI h) λb z=>z.imp id λe=>⟨aZ,by rw[e];exact t.lt,aZ⟩
 obtain⟨gw,T,z,y,R,A,O,S⟩:=H.over;exact⟨gw,y,B,λX u=>⟨by rw[(z.cF u λh=>h.2 R).cell];rfl,(t.cF u λh=>h.1 (aJ rfl)).cell,(j.cF u λh=>h.2 (A _ (aJ rfl))).cell,(j.cF u λh=>h.2 (A _ (aJ rfl))).frozen⟩,O,H,S,λu=>u.more λb h=>⟨h.1,λQ=>h.2 (A b Q)⟩,
  λX u=>⟨(t.cF u λh=>h.1 (aJ rfl)).cell,(j.cF u λh=>h.2 (aJ rfl)).cell,(j.cF u λh=>h.2 (aJ rfl)).frozen⟩,M⟩
theorem cU.OT{O}(h:cU par bj O k) c(lay:cJ->List eU×Int):ew (pQ O c (0,0,0) λB=>jF B c (lay B)).2.1:=by
 have j:ew (0,0,0):=by simp[ew,dA]
 unfold pQ;split
 .split;exact j;next B hu =>
  dsimp only;unfold jF;split;split;exact (h.up hu).1.todq.new;exact j;exact j
 exact j
theorem aur(h:iT C par bj gp s k aa W)(hk:k<=40000)(c:nG)(hc:dA c.a) O Q N B :aK aR 76 #[aj (I ⟨gp,0,U⟩),av (oO c (F O (Z c.e) Q) (F N (Z c.f) B))] W (Cv C par bj gp (s7 s.2 (lQ s.1 c.a).1 (lQ s.1 c.a).2.1 (lQ s.1 c.a).2.2).1 (k+1) (s7 s.2 (lQ s.1 c.a).1 (lQ s.1 c.a).2.1 (lQ s.1 c.a).2.2).2 aa W):=by
 have:=h.1.1;obtain⟨gw,A,H⟩:=h.op (oO c (F O (Z c.e) Q) (F N (Z c.f) B));have j:=aY H;have HI:Hid (ew (lQ s.1 c.a).2.1):=aY (H.ov.1.OT c.a _);have:Hid (lQ s.1 c.a=lQ s.1 c.a):=aY rfl;have C1:=aY λX (t:K _ X)=>(H.ov.st t).begin hk hc
 have hq:=λX u=>(H.cell X u).1
 have js:=λX u=>(H.cell X u).2.1
 obtain⟨s1,ids⟩:=s;generalize lQ s1 c.a=R at *;go_in;go_upto_region 1 with fail;generalize ay (ay W _) _=W1 at *;have qs:=aB hq js;refine ae1 10 7 (au #[dD R.2.1,G J R.2.2]) 58 #[aj (I ⟨gw,0,U⟩),G J c.a] (YO aa A (D (L W))) (λX=>dY A par bj gw R.1 (k+1) (λb=>aa b\/b=D (L W)) X) (λ_ _ h k=>h.st k) (λX t=>(C1.aX X t).mono λe w' ⟨e1,h1,Y⟩=>⟨e1,Y,h1⟩) ?_;iterate 7 refine bB.i ?_
 refine bB.kn (λv=>v=au #[dD R.2.1,G J R.2.2]) ?_;iterate 2 refine bB.i ?_
 refine⟨λ_=>rfl,λV X hp=>?_,λV X y hD hA=>?_⟩;exact am8;simp only[bZ,cC,dF,bS,Nat.reduceAdd]at hA;have M:=j.aX.up y;have CT:=aY (Xc (j.aX.back hD y (aH k)) aZ aZ R.2.1 HI.aX R.2.2);generalize s7 ids R.1 R.2.1 R.2.2=T at *;obtain⟨s2,x⟩:=T;refine bN.call 123 _ rfl Tz ?_;apply bW CT.aX;rintro X2⟨gI,wS,z⟩;refine⟨_,rfl,?_⟩;obtain⟨-,q2,z2⟩:=j.aX.own X2 (M.tr z);have S:=aY (j.aX.fin _ _ _ aa _ (oP x (F U 0 0)).toList rfl (λ_ h=>aI h) wS (M.tr z));simp only[ei]at S;have qs:=aB q2 z2;refine bN.s ?_;refine bN.h ?_;go_wp2;obtain⟨hP,hU,e9⟩:=S.aX;refine aM (v:=av (oP x (F U 0 0))) (by simp[results,results76,go_sem,e9]) rfl ?_;exact⟨rfl,gI,hP,hU⟩
theorem axb(h:iT C par bj gp s k aa W)(hk:k<=40000)(c:nG)(hc:dA c.a)(hb:dA c.b)(hfit:∀t∈c.f,jN t)(dU:Z c.f<=1000000) Ae ce{B A}(hf:fZ c.f (F B (Z c.f) A) W) :aK aR 77 #[aj (I ⟨gp,0,U⟩),av (oO c (F Ae (Z c.e) ce) (F B (Z c.f) A))] W (Cv C par bj gp (if c.b<0 then s7 s.2 s.1 (0,0,0) 1 else s7 s.2 (oC s.1 c.a c.b.toNat c.f).1 (oC s.1 c.a c.b.toNat c.f).2.1 (oC s.1 c.a c.b.toNat c.f).2.2).1 (k+1) (if c.b<0 then s7 s.2 s.1 (0,0,0) 1 else s7 s.2 (oC s.1 c.a c.b.toNat c.f).1 (oC s.1 c.a c.b.toNat c.f).2.1 (oC s.1 c.a c.b.toNat c.f).2.2).2 aa W):=by
 have:=h.1.1;obtain⟨gw,aS,H⟩:=h.op (oO c (F Ae (Z c.e) ce) (F B (Z c.f) A));have j:=aY H;obtain⟨S,ids⟩:=s;by_cases Q:c.b<0
 .rw[bV Q];have O:=aY (Xc (H.EW.mono (aH k)) bL aZ (0,0,0) (by simp[ew,dA]) 1);have M:=λX u=>(H.cell X u).2.1
  have q1:=M _ (bf.rf _ _);generalize s7 ids S (0,0,0) 1=T at *;obtain⟨s2,x⟩:=T;go_in;go_upto_region 1 with fail;generalize ay (ay W _) _=W1 at *;go_wp2_with fail
  apply bW O.aX;rintro Y⟨gI,N,y⟩;obtain⟨-,q2,z2⟩:=j.aX.own Y y;have jb:=aY (j.aX.fin _ _ _ aa _ (oP x (F U 0 0)).toList rfl (λ_ h=>aI h) N y);simp only[ei]at jb;exact am9
 rw[bQ Q];obtain⟨n,hn⟩:=Int.eq_ofNat_of_zero_le (Int.not_lt.1 Q);have aFE:n<18446744073709551616:=by unfold dA at hb;omega
 have hw:E.wrap c.b=(n:Int):=by rw[hn];simp[IntKind.wrap_u64];omega
 have hnt:c.b.toNat=n:=aZ;rw[hnt];have HI:Hid (ew (oC S c.a n c.f).2.1):=aY (H.ov.1.OT c.a _);have C1:=aY λX (z:K _ X)=>(H.ov.st z).sub hk hc aFE (fO _ _ _ _ hf (H.k1.tr z)) hfit dU
 have hq:=λX u=>(H.cell X u).1
 have M:=λX u=>(H.cell X u).2.1
 have q1:=M _ (bf.rf _ _);generalize oC S c.a n c.f=R at *;go_in;go_upto_region 3 with fail;generalize ay (ay W _) _=W1 at *;have qs:=aB hq (aB M hw);refine ae1 15 12 (au #[dD R.2.1,G J R.2.2]) 23 #[aj (I ⟨gw,0,U⟩),G J c.a,G E (n:Int),F B (Z c.f) A] (YO aa aS (D (L W))) (λX=>dY aS par bj gw R.1 (k+1) (λb=>aa b\/b=D (L W)) X) (λ_ _ h k=>h.st k) (λX z=>(C1.aX X z).mono λe w' ⟨e1,h1,h2⟩=>⟨e1,h2,h1⟩) ?_;iterate 12 refine bB.i ?_
 refine bB.kn (λv=>v=au #[dD R.2.1,G J R.2.2]) ?_;iterate 2 refine bB.i ?_
 refine⟨λ_=>rfl,λV X hp=>?_,λV X hX hD hA=>?_⟩;exact am8;simp only[bZ,cC,dF,bS,Nat.reduceAdd]at hA;have hu:=j.aX.up hX;have O:=aY (Xc (j.aX.back hD hX (aH k)) aZ aZ R.2.1 HI.aX R.2.2);generalize s7 ids R.1 R.2.1 R.2.2=T at *;obtain⟨s2,x⟩:=T;refine bN.call 123 _ rfl Tz ?_;apply bW O.aX;rintro Y⟨gI,N,y⟩;refine⟨_,rfl,?_⟩;obtain⟨-,q2,z2⟩:=j.aX.own Y (hu.tr y);have jb:=aY (j.aX.fin _ _ _ aa _ (oP x (F U 0 0)).toList rfl (λ_ h=>aI h) N (hu.tr y));simp only[ei]at jb;have qs:=aB q2 z2;refine bN.s ?_;refine bN.h ?_;exact am9
end
def aaO(P:Program)(t:TypeId)(y:String):Option FuncId :=
 match (P.info? t).bind λi=>i.methods.find? λm=>m.name==y with
 | some m=>match m.path.toList,m.func with
  | [s],I (f,aA)=>match P.underlying s.struct with
   | some (.struct fs)=>match fs[s.index]? with
    | some j=>match P.underlying j.type,P.info? j.type with
     | some (TypeDesc.pointer _),I i=>if s.deref&&j.offset==0&&i.size==1 then I f else U
     | _,_=>U
    | _=>U
   | _=>U
  | _,_=>U
 | _=>U
theorem avG{P:Program}{t:TypeId}{j:String}{f:FuncId}(h:aaO P t j=I f){X:aP}{g:Nat}{v:aQ}(q:X.cell? ⟨g,0,U⟩=I v)(n:Nat):(method (n+1) t (aj (I ⟨g,0,U⟩)) j).run P X=.ok (f,v) X:=by
 unfold aaO at h;cases hi:P.info? t with
 | none=>rw[hi]at h;cases h
 | some i =>
  rw[hi]at h;simp only[Option.bind_some]at h;cases hm:i.methods.find? λm=>m.name==j with
  | none=>rw[hm]at h;cases h
  | some m =>
   rw[hm]at h;dsimp only at h;split at h
   .next s f' hp hf =>
    split at h
    .next fs hu =>
     split at h
     .next fl dU =>
      split at h
      .next e i' kO hi2 =>
       split at h
       .next hc =>
        injection h with h;subst h;simp only[fI,beq_iff_eq]at hc;obtain⟨⟨y,z⟩,A⟩:=hc;unfold method;simp[typeInfo,hi,hm,hp,hf,follow,run_underlying hu,dU,y,Place.get,go_sem,fieldPlace,sizeOf,hi2,A,z,receiverAt,run_underlying kO,q,isAgg]
       cases h
      cases h
     cases h
    cases h
   cases h
section
variable {C aa:Nat->Prop}{par bj:List Int}{gp k j:Nat}{s:qE}{W:aP}
theorem axc(h:iT C par bj gp s k aa W)(c:nG) Q R O M{b}{A:String}{fb:FuncId}{T}(hb:bn W b T #[.func (.methodOf 91 A) #[] #[]])(hr:aaO aR 91 A=I fb)(hf:∀args W,(callFunc fb args).run aR W=.ok (.enter fb args) W){B:cT}{t:Int}(hk:k<=j)(hc:∀z gw aa W,dY z par bj gw s.1 k aa W->aK aR fb #[aj (I ⟨gw,0,U⟩),G J c.a,G J c.b] W λe w'=>e=ak (G J t)/\mL z par bj gw B j aa W w') :aK aR 122 #[aj (I ⟨gp,0,U⟩),av (oO c (F Q (Z c.e) R) (F O (Z c.f) M)),aj (I ⟨b,0,U⟩)] W (Cv C par bj gp (B,s.2) j (ll t) aa W):=by
 obtain⟨gw,z,H⟩:=h.op (oO c (F Q (Z c.e) R) (F O (Z c.f) M));have y:=aY H;have C1:=aY (hc _ _ _ _ H.ov);have hq:=(H.cell _ (bf.rf _ _)).1;have:=(H.cell _ (bf.rf _ _)).2.1;have:=(hb.bM H.k1).cell 0;have V:=aY (avG hr hq);have Y:=aY hf;go_in;go_upto_region 1 with fail;generalize ay (ay W _) _=W1 at *;go_wp2_with fail
 rw[V.aX _,Result.andThen_ok,Y.aX];apply bW C1.aX;rintro X2⟨hV,u⟩;have N:=y.aX.up u;obtain⟨-,q2,z2⟩:=y.aX.own X2 N;have S:=aY (y.aX.fin _ _ _ aa _ [G J t,G J 0,G E 0,G E 0,G J 0,F U 0 0,G J 0,G J 0,ar az] rfl (λ_ h=>aI h) (y.aX.back hV u hk) N);simp only[ei]at S;go_wp2;obtain⟨hP,hU,X⟩:=S.aX;refine aM (v:=av (oP (ll t) (F U 0 0))) (by simp[results,results122,go_sem,X,ll]) rfl ?_;exact⟨rfl,rfl,hP,hU⟩
theorem aus(h:iT C par bj gp s k aa W)(Q:Z par<=6)(hk:k+588<=40000)(c:nG) A B z t :aK aR 75 #[aj (I ⟨gp,0,U⟩),av (oO c (F A (Z c.e) B) (F z (Z c.f) t))] W (Cv C par bj gp (zP s.1,s.2) (k+588) (ll 0) aa W):=by
 obtain⟨gw,aS,H⟩:=h.op (oO c (F A (Z c.e) B) (F z (Z c.f) t));have j:=aY H;have R:=aY (H.ov.round Q hk);have:=(H.cell _ (bf.rf _ _)).1;go_in;go_upto_region 1 with fail;generalize ay (ay W _) _=W1 at *;go_wp2_with fail
 apply bW R.aX;rintro V⟨T,u⟩;have y:=j.aX.up u;obtain⟨-,q2,X⟩:=j.aX.own V y;have M:=aY (j.aX.fin _ _ _ aa _ [G J 0,G J 0,G E 0,G E 0,G J 0,F U 0 0,G J 0,G J 0,ar az] rfl (λ_ h=>aI h) (j.aX.back T u (Nat.le_add_right _ _)) y);simp only[ei]at M;go_wp2;obtain⟨S,O,N⟩:=M.aX;refine aM (v:=av (oP (ll 0) (F U 0 0))) (by simp[results,results75,go_sem,N,ll]) rfl ?_;exact⟨rfl,rfl,S,O⟩
theorem agv(h:iT C par bj gp s k aa W)(n:Int) :aK aR 124 #[aj (I ⟨gp,0,U⟩),G J n] W λe T=>e=ak (au #[dD ((AF s.2 n).getD (0,0,0)),ar (AF s.2 n).isSome])/\K W T:=by
 obtain⟨s1,y⟩:=s;obtain⟨-,gw,vi,X,hO,-⟩:=h;obtain⟨A,c,rfl,S,-⟩:=hO.bD;have q:=X.cells;have O:Hid (AF y n=if 0<=n then y[n.toNat]? else U):=aY rfl;have z:=bn.new W 42 #[G J 0,G E 0,G E 0];have k1:=z.cG;have j:=aY λus (hu:Z us=3)=>aB (K.sets (r:=D (L W)) (bP _) us 0 _ k1) (DD (us:=us) z aZ).cell
 have:=z.cells _ (K.rf _);have:=z.frozen;generalize AF y n=R at *;dsimp only at S;rcases (show n<0\/(¬n<0/\(Z y:Int)<=n)\/(¬n<0/\n<(Z y:Int)) by omega)with B|⟨B,h1⟩|⟨B,h1⟩;rotate_left 2
 .obtain⟨m,rfl⟩:=Int.eq_ofNat_of_zero_le (Int.not_lt.1 B);have hm:m<Z y:=aZ;have M:Hid (R=I y[m]):=aY (by rw[O.aX,bV (by omega)];simp);obtain⟨N,Q,Y,rfl,-,hrl,d0,d⟩:=fE S m hm bG;generalize y[m]=i at *;have hc:Y=gF i:=hrl W (K.rf W);subst hc;have:∀t,t<3->(aU W (aq #[G J 0,G E 0,G E 0] 42)).cell? ⟨N,Q+m*3+t,U⟩=(eI i)[t]?:=λt V=>(d _ k1 t V).trans (show (gF i)[t]?=(eI i)[t]? from aD)
  have:(aU W (aq #[G J 0,G E 0,G E 0] 42)).cell? ⟨N,Q+m*3,U⟩=I (G J i.1):=d0 _ k1;replace j:=aY (j.aX [G J i.1,G E i.2.1,G E i.2.2] rfl);simp only[ei]at j;replace q:=q _ k1;go_in;go_upto_region 1 with fail;generalize ay W _=W1 at *;go_wp2;obtain⟨H,e9⟩:=j.aX;refine aM (v:=au #[dD i,ar aA]) ana rfl ?_;exact⟨by rw[M.aX];rfl,H⟩
 all_goals
  have M:Hid (R=U):=aY (by
   rw[O.aX];split;exact List.getElem?_eq_none aZ;rfl)
  replace j:=aY (j.aX [G J 0,G E 0,G E 0] rfl)
  simp only[ei]at j
  replace q:=q _ k1
  go_in
  go_upto_region 1 with fail
  generalize ay W _=W1 at *
  go_wp2
  obtain⟨H,e9⟩:=j.aX
  refine aM (v:=au #[dD (0,0,0),ar az]) ana rfl ?_
  exact⟨by rw[M.aX];rfl,H⟩
def GX(s:qE)(a n:Int)(f:bY->List eU->List eU×Int):qE×xH:=match AF s.2 n with
 | none=>(s,ll 1)
 | some i=>(((eS s.1 a i (f i)).1,s.2),ll (eS s.1 a i (f i)).2.2)
theorem asW(h:iT C par bj gp s k aa W)(c:nG)(hel:Z c.e<=1000000)(hef:∀x∈c.e,nv x){B M}(he:iI c.e (F B (Z c.e) M) W) Af cf :aK aR 79 #[aj (I ⟨gp,0,U⟩),av (oO c (F B (Z c.e) M) (F Af (Z c.f) cf))] W (Cv C par bj gp (GX s c.a c.n (λi l=>ij l i c.e)).1 (k+1) (GX s c.a c.n (λi l=>ij l i c.e)).2 aa W):=by
 obtain⟨gw,aS,H⟩:=h.op (oO c (F B (Z c.e) M) (F Af (Z c.f) cf));have N:=aY (agv H.EW c.n);have Rb:=aY h.1.2;have t:=aY H;have:=(H.cell _ (bf.rf _ _)).2.1;have HR:Hid (GX s c.a c.n (λi l=>ij l i c.e)=match AF s.2 c.n with|none=>(s,ll 1)|some i=>(((eS s.1 c.a i ((λi l=>ij l i c.e) i)).1,s.2),ll (eS s.1 c.a i ((λi l=>ij l i c.e) i)).2.2)):=aY rfl;generalize GX s c.a c.n (λi l=>ij l i c.e)=R at *;have O:=aY λi (hi:ew i) X (j:K _ X)=>(H.ov.st j).Fb c.a hi (mq _ _ _ _ he (H.k1.tr j)) hel hef
 cases hn:AF s.2 c.n with
 | none =>
  rw[hn]at N HR;go_in;go_upto_region 1 with fail;generalize ay (ay W _) _=W1 at *;go_wp2_with fail
  apply bW N.aX;intro A Q;have y:=Q.tr (K.new A (aq #[G J 0,G E 0,G E 0] 42));obtain⟨-,q2,z2⟩:=t.aX.own _ (bf.cz y _);have z:=aY (t.aX.fin _ _ _ aa _ [G J 1,G J 0,G E 0,G E 0,G J 0,F U 0 0,G J 0,G J 0,ar az] rfl (λ_ h=>aI h) ((t.aX.EW.st y).mono (aH k)) (bf.cz y _));simp only[ei]at z;simp only[Option.getD_none,Option.isSome_none];go_upto_region 2 with fail;generalize A.alloc _=W3 at *;go_wp2;obtain⟨hP,hU,e9⟩:=z.aX;refine aM (v:=av (oP (ll 1) (F U 0 0))) anb rfl ?_;exact TA
 | some i =>
  have fi:ew i:=Rb.aX i (by
   unfold AF at hn;split at hn
   .grind
   cases hn)
  rw[hn]at N HR;replace O:=aY (O.aX i fi);dsimp only at HR;generalize eS s.1 c.a i ((λi l=>ij l i c.e) i)=T at *;go_in;go_upto_region 1 with fail;generalize ay (ay W _) _=W1 at *;go_wp2_with fail
  apply bW N.aX;intro A Q;have Y:=bn.new A 42 (eI i);have y:=Q.tr Y.cG;have hq:=λX (j:K _ X)=>(t.aX.cell X (bf.cz (y.tr j) _)).1
  have rK:=λX (j:K _ X)=>(t.aX.cell X (bf.cz (y.tr j) _)).2.1
  have hq3:=Y.cells;simp only[Option.getD_some,Option.isSome_some];go_upto_region 4 with fail;generalize A.alloc _=W3 at *;have qs:=aB hq (aB rK hq3);refine fD 9 ?_;iterate 9 refine bB.i ?_
  refine λV X j hA=>?_
  simp only[bZ,cC,dF,bS,Nat.reduceAdd]at hA;refine bN.call 66 #[aj (I ⟨gw,0,U⟩),G J c.a,dD i,F B (Z c.e) M] rfl Ty ?_;apply bW (O.aX X (y.tr j));rintro X2⟨hV,u⟩;refine⟨_,rfl,?_⟩;have hu:bf (YO aa aS (D (L W))) W1 X2:=(bf.cz (y.tr j) _).tr u;have S:=t.aX.up hu;obtain⟨-,q2,z2⟩:=t.aX.own X2 S;have z:=aY (t.aX.fin _ _ _ aa _ [G J T.2.2,G J 0,G E 0,G E 0,G J 0,F U 0 0,G J 0,G J 0,ar az] rfl (λ_ h=>aI h) (t.aX.back hV hu (aH k)) S);simp only[ei]at z;have qs:=aB q2 z2;refine bN.p ?_;refine bN.s ?_;refine bN.h ?_;go_wp2;obtain⟨hP,hU,e9⟩:=z.aX;refine aM (v:=av (oP (ll T.2.2) (F U 0 0))) anb rfl ?_;exact TA
theorem atB(h:iT C par bj gp s k aa W)(c:nG) Ae ce Af cf :aK aR 80 #[aj (I ⟨gp,0,U⟩),av (oO c (F Ae (Z c.e) ce) (F Af (Z c.f) cf))] W (Cv C par bj gp (GX s c.a c.n (λi l=>iK l i)).1 (k+1) (GX s c.a c.n (λi l=>iK l i)).2 aa W):=by
 obtain⟨gw,aS,H⟩:=h.op (oO c (F Ae (Z c.e) ce) (F Af (Z c.f) cf));have B:=aY (agv H.EW c.n);have Rb:=aY h.1.2;have j:=aY H;have:=(H.cell _ (bf.rf _ _)).2.1;have HR:Hid (GX s c.a c.n (λi l=>iK l i)=match AF s.2 c.n with|none=>(s,ll 1)|some i=>(((eS s.1 c.a i ((λi l=>iK l i) i)).1,s.2),ll (eS s.1 c.a i ((λi l=>iK l i) i)).2.2)):=aY rfl;generalize GX s c.a c.n (λi l=>iK l i)=R at *;have M:=aY λi (hi:ew i) X (y:K _ X)=>(H.ov.st y).Fi c.a hi
 cases hn:AF s.2 c.n with
 | none =>
  rw[hn]at B HR;go_in;go_upto_region 1 with fail;generalize ay (ay W _) _=Y at *;go_wp2_with fail
  apply bW B.aX;intro A N;have t:=N.tr (K.new A (aq #[G J 0,G E 0,G E 0] 42));obtain⟨-,q2,S⟩:=j.aX.own _ (bf.cz t _);have z:=aY (j.aX.fin _ _ _ aa _ [G J 1,G J 0,G E 0,G E 0,G J 0,F U 0 0,G J 0,G J 0,ar az] rfl (λ_ h=>aI h) ((j.aX.EW.st t).mono (aH k)) (bf.cz t _));simp only[ei]at z;simp only[Option.getD_none,Option.isSome_none];go_upto_region 2 with fail;generalize A.alloc _=W3 at *;go_wp2;obtain⟨hP,hU,e9⟩:=z.aX;refine aM (v:=av (oP (ll 1) (F U 0 0))) anc rfl ?_;exact TA
 | some i =>
  have fi:ew i:=Rb.aX i (by
   unfold AF at hn;split at hn
   .grind
   cases hn)
  rw[hn]at B HR;replace M:=aY (M.aX i fi);dsimp only at HR;generalize eS s.1 c.a i ((λi l=>iK l i) i)=T at *;go_in;go_upto_region 1 with fail;generalize ay (ay W _) _=Y at *;go_wp2_with fail
  apply bW B.aX;intro A N;have Q:=bn.new A 42 (eI i);have t:=N.tr Q.cG;have hq:=λX (y:K _ X)=>(j.aX.cell X (bf.cz (t.tr y) _)).1
  have rK:=λX (y:K _ X)=>(j.aX.cell X (bf.cz (t.tr y) _)).2.1
  have hq3:=Q.cells;simp only[Option.getD_some,Option.isSome_some];go_upto_region 4 with fail;generalize A.alloc _=W3 at *;have qs:=aB hq (aB rK hq3);refine fD 7 ?_;iterate 7 refine bB.i ?_
  refine λV X y hA=>?_
  simp only[bZ,cC,dF,bS,Nat.reduceAdd]at hA;refine bN.call 67 #[aj (I ⟨gw,0,U⟩),G J c.a,dD i] rfl Ty ?_;apply bW (M.aX X (t.tr y));rintro X2⟨hV,u⟩;refine⟨_,rfl,?_⟩;have hu:bf (YO aa aS (D (L W))) Y X2:=(bf.cz (t.tr y) _).tr u;have O:=j.aX.up hu;obtain⟨-,q2,S⟩:=j.aX.own X2 O;have z:=aY (j.aX.fin _ _ _ aa _ [G J T.2.2,G J 0,G E 0,G E 0,G J 0,F U 0 0,G J 0,G J 0,ar az] rfl (λ_ h=>aI h) (j.aX.back hV hu (aH k)) O);simp only[ei]at z;have qs:=aB q2 S;refine bN.p ?_;refine bN.s ?_;refine bN.h ?_;go_wp2;obtain⟨hP,hU,e9⟩:=z.aX;refine aM (v:=av (oP (ll T.2.2) (F U 0 0))) anc rfl ?_;exact TA
theorem avH a b c d W:(Instr.field 61 (av #[a,b,c,d]) 1).run aR W=.ok b W:=by rfl
theorem avI(h:iT C par bj gp s k aa W)(c:nG) R S Q O :aK aR 84 #[aj (I ⟨gp,0,U⟩),av (oO c (F R (Z c.e) S) (F Q (Z c.f) O))] W (Cv C par bj gp s (k+1) ⟨0,(0,0,0),0,[],Z (qI s.1 c.a).bq,Jb s.1 c.a,(eK s.1 c.a).isSome⟩ aa W):=by
 obtain⟨gw,aS,H⟩:=h.op (oO c (F R (Z c.e) S) (F Q (Z c.f) O));have B:=aY H;have C1:=aY λX (j:K _ X)=>(H.ov.st j).state c.a
 have Y:=aY λX (j:K _ X)=>(H.ov.st j).busy c.a
 have C3:=aY λX (j:K _ X)=>((H.ov.st j).up c.a).mono λe M ⟨z,e2⟩=>show e=_/\K X M from ⟨z,e2▸K.rf X⟩
 have hq:=λX (j:K _ X)=>(H.cell X (bf.cz j _)).1
 have rK:=λX (j:K _ X)=>(H.cell X (bf.cz j _)).2.1
 generalize qI s.1 c.a=st at *;generalize Jb s.1 c.a=N at *;generalize (eK s.1 c.a).isSome=up at *;go_in;go_upto_region 1 with fail;generalize ay (ay W _) _=W1 at *;have qs:=aB hq rK;refine fD 23 ?_;iterate 6 refine bB.i ?_
 refine bB.c (λv _=>∃A t vp va,v=av #[G E (st.life:Int),F A (Z st.bq) t,vp,va]) (λ_ _ _ h _=>h) (λX j=>(C1.aX X j).mono λe M ⟨vl,vp,va,z,hS,k9⟩=>by
  obtain⟨⟨Al,cl,rfl⟩,-,-⟩:=hS.sl;exact⟨_,z,⟨_,_,_,_,rfl⟩,k9⟩) ?_
 refine bB.op (λv _=>∃A t,v=F A (Z st.bq) t) (λ_ _ _ h _=>h) (λV X j y=>?_) ?_
 .simp only[dN,bZ,cC,dK,dL,bS]at y;obtain⟨⟨A,t,vp,va,e⟩,-⟩:=y;simp[dI,bR,aC,e,fk,aL,bT,eP,go_sem,avH]
 refine bB.is (G J (Z st.bq:Int)) (λV X j y=>?_) ?_;simp only[dN,bZ,cC,dK,dL,bS]at y;obtain⟨⟨A,t,e⟩,-⟩:=y;exact ane;iterate 6 refine bB.i ?_
 refine bB.v Y.aX ?_;iterate 6 refine bB.i ?_
 refine bB.v C3.aX ?_;refine λV X j hA=>?_
 simp only[bZ,cC,dF,bS,Nat.reduceAdd]at hA;obtain⟨-,q2,z2⟩:=B.aX.own X (bf.cz j _);have T:=aY (B.aX.fin _ _ _ aa _ [G J 0,G J 0,G E 0,G E 0,G J 0,F U 0 0,G J (Z st.bq:Int),G J (N:Int),ar up] rfl (λ_ h=>aI h) ((B.aX.EW.st j).mono (aH k)) (bf.cz j _));simp only[ei]at T;have qs:=aB q2 z2;refine bN.p ?_;refine bN.s ?_;refine bN.h ?_;go_wp2;obtain⟨hP,hU,e9⟩:=T.aX;refine aM (v:=av (oP ⟨0,(0,0,0),0,[],(Z st.bq:Int),(N:Int),up⟩ (F U 0 0))) (by simp[results,results84,go_sem,e9]) rfl ?_;exact⟨rfl,rfl,hP,hU⟩
theorem cU.aDq{O}(h:cU par bj O k) c:Z (jU O c).2.1<=1000000/\∀e∈(jU O c).2.1,Z e<=1000000:=by
 unfold jU;split
 .split;simp;next B hu =>
  dsimp only;split;exact afS (h.up hu).1.todq _ _;simp
 simp
def Rc(y t:Nat->Prop)(par bj:List Int)(gw:Nat)(R:cT×List (List eD)×Int)(k:Nat)(Y:Nat->Prop)(W1:aP)(v:aQ)(X:aP):Prop :=
 ∃lo j,D (L W1)<=lo/\lo<=j/\j<=D (L X)/\Fx (λk=>k<lo\/j<=k) (λW=>bD eB R.2.1 v W) X/\dY y par bj gw R.1 k (λb=>t b\/lo<=b/\b<j) X/\bf Y W1 X
theorem Rc.st{j y Y:Nat->Prop}{gw R}{W1 X t:aP}{v}(h:Rc j y par bj gw R k Y W1 v X)(u:K X t):Rc j y par bj gw R k Y W1 v t:=by obtain⟨lo,B,H,A,N,C,M,z⟩:=h;exact⟨lo,B,H,A,cQ N u.size,C.k u,M.st u,z.tr (bf.cz u _)⟩
theorem avJ(h:iT C par bj gp s k aa W)(hk:k<=40000)(c:nG) Ae ce Af cf :aK aR 83 #[aj (I ⟨gp,0,U⟩),av (oO c (F Ae (Z c.e) ce) (F Af (Z c.f) cf))] W (LK C par bj gp ((jU s.1 c.a).1,s.2) (k+1) ⟨(jU s.1 c.a).2.2,(0,0,0),0,(jU s.1 c.a).2.1,I2 (jU s.1 c.a).1 c.a,0,az⟩ aa W):=by
 obtain⟨gw,B,H⟩:=h.op (oO c (F Ae (Z c.e) ce) (F Af (Z c.f) cf));have N:=aY H;have HS:=aY (H.ov.1.aDq c.a);have Gn:=aY λX Z' (hV:dY B par bj gw (jU s.1 c.a).1 (k+1) Z' X)=>(hV.aDo c.a).mono λe w' ⟨e1,e2⟩=>show e=_/\K X w' from ⟨e1,e2▸K.rf X⟩
 have C1:=aY λX (j:K _ X)=>(H.ov.st j).anZ hk c.a
 have hq:=λX u=>(H.cell X u).1
 have js:=λX u=>(H.cell X u).2.1
 generalize jU s.1 c.a=R at *;generalize I2 R.1 c.a=O at *;go_in;go_upto_region 1 with fail;generalize ay (ay W _) _=y at *;have qs:=aB hq js;refine Rh 11 [6] (bf (YO aa B (D (L W))) y) (λ_ _=>True) (λn vs X=>if n=0 then K y X else ∃A cc,vs=[au #[F A (Z R.2.1) cc,G J R.2.2]]/\Rc B (λb=>aa b\/b=D (L W)) par bj gw R (k+1) (YO aa B (D (L W))) y (F A (Z R.2.1) cc) X) [([],[]),([0],[(8,0)]),([1],[(9,1)]),([2],[(10,2)]),([],[]),([4],[(12,4)]),([3,5],[(11,3),(13,5)]),([6],[(14,6)]),([7],[(7,7)]),([7],[(7,7)]),([8],[(15,8)]),([0,1,2,3,4,5,6,7,8,9,10],[(16,9)])] 27 [] [(7,6,id),(8,7,LI),(9,7,LJ),(10,8,id)] (λ_ _ h k=>h.tr (bf.cz k _)) (λ_ _ _=>trivial) (λn vs X t h j=>by
  split at h
  .next h0=>rw[bV h0];exact h.tr j
  next h0 =>
  rw[bQ h0];obtain⟨A,cc,e,S⟩:=h;exact⟨A,cc,e,S.st j⟩) (bf.rf _ _) (λ_=>K.rf y) ?_
 iterate 6 refine bB.i ?_
 refine bB.kn (λv=>∃A cc,v=au #[F A (Z R.2.1) cc,G J R.2.2]) ?_;refine bB.op (λv _=>∃A cc,v=au #[F A (Z R.2.1) cc,G J R.2.2]) (λ_ _ _ h _=>h) (λV X j hp=>?_) ?_;exact TC;refine bB.op (λv _=>∃A cc,v=F A (Z R.2.1) cc) (λ_ _ _ h _=>h) (λV X j hp=>?_) ?_;exact TC;refine bB.op (λv _=>v=G J R.2.2) (λ_ _ _ h _=>h) (λV X j hp=>?_) ?_;exact TC;refine bB.op (λv _=>∃A cc,v=F A (Z R.2.1) cc) (λ_ _ _ h _=>h) (λV X j hp=>?_) ?_;exact TC;refine⟨⟨⟨_,_,rfl,rfl,rfl,λV X hX hD hp=>?_⟩,trivial⟩,λk hk=>(by simp at hk),λz hz=>?_,λV X hX hD _ hE hA=>?_⟩
 .simp only[dN,bZ,cC,dK,dL,bS]at hp;have hD:K y X:=Ts;simp[bR,aC,hp,lZ,aL,bT,go_sem];refine (C1.aX X hD).mono ?_;rintro e w'⟨v,M,rfl,h1,h2,h3,h4,h5⟩;obtain⟨A,cc,rfl,-⟩:=h3.now;exact⟨_,rfl,(bf.cz hD _).tr h5,⟨A,cc,rfl,D (L X),M,hD.size,h1,h2,h3,h4,(bf.cz hD _).tr h5⟩,A,cc,rfl⟩
 .simp at hz;rcases hz with rfl|rfl|rfl|rfl;all_goals refine⟨_,_,rfl,rfl,rfl,bu,λV X hX hp=>⟨X,?_⟩⟩
  all_goals simp only[dN,bZ,cC,dK,dL,bS]at hp
  exact Tt
  .obtain⟨⟨A,cc,e⟩,-⟩:=hp;simp[bR,aC,e,aL,bT,go_sem,LI]
  .obtain⟨⟨A,cc,e⟩,-⟩:=hp;simp[bR,aC,e,aL,bT,go_sem,LJ]
  exact Tt
 simp only[bZ,cC,dF,bS,Nat.reduceAdd]at hA;obtain⟨e0,e1,e2,e3,e4,e5,-⟩:=hA;simp only[dN,id]at hE;obtain⟨Y,Q,h9,lL,-⟩:=hE;obtain⟨A,cc,T,S⟩:∃A cc,V 6=au #[F A (Z R.2.1) cc,G J R.2.2]/\Rc B (λb=>aa b\/b=D (L W)) par bj gw R (k+1) (YO aa B (D (L W))) y (F A (Z R.2.1) cc) X:=Ts;rw[Y,T]at Q h9;rw[Q]at lL;rw[T]at Y;simp only[LI,LJ]at Q h9 lL;have hA:=aB e0 (aB e1 (aB e2 (aB e3 (aB e4 (aB e5 (aB T (aB Y (aB Q (aB h9 lL)))))))));have qs:=trivial;refine bN.p ?_;refine bN.h ?_;obtain⟨lo,M,g1,g2,g3,hF,hV,hu⟩:=S;have HF:=aY hF;have HV:=aY hV;have hqX:=λt (j:K X t)=>hq t (hu.tr (bf.cz j _))
 have aFF:=λt (j:K X t)=>js t (hu.tr (bf.cz j _))
 go_upto_region 2 with fail;have qs:=aB hqX aFF;refine fD 9 ?_;iterate 8 refine bB.i ?_
 refine bB.v (λt j=>Gn.aX t _ (HV.aX.st j)) ?_;refine λV t j hA=>?_
 simp only[bZ,cC,dF,bS,Nat.reduceAdd]at hA;have kO:=hu.tr (bf.cz j _);have huo:=N.aX.up kO;obtain⟨-,q2,z2⟩:=N.aX.own t huo;have jb:=aY (N.aX.fin _ _ _ (λb=>aa b\/lo<=b/\b<M) _ [G J R.2.2,G J 0,G E 0,G E 0,G J 0,F A (Z R.2.1) cc,G J O,G J 0,ar az] rfl (λb h=>h.imp aI id) (N.aX.back (HV.aX.st j) kO (aH k)) huo);have:D (L W)+1<D (L y):=KP ((N.aX.own y (bf.rf _ _)).2.1 0);have HX:Hid (Fx (λk=>k<lo\/M<=k) (λW=>bD eB R.2.1 (F A (Z R.2.1) cc) W) (ei t (D (L W)+1) 0 [G J R.2.2,G J 0,G E 0,G E 0,G J 0,F A (Z R.2.1) cc,G J O,G J 0,ar az])):=aY ((HF.aX.k j).up (bf.sets (X:=λk=>k=D (L W)+1) rfl _ 0 t) λk e=>aI aZ);have hsz:=aY (cQ g3 (cQ j.size (bf.sets (X:=λk=>k=D (L W)+1) rfl [G J R.2.2,G J 0,G E 0,G E 0,G J 0,F A (Z R.2.1) cc,G J O,G J 0,ar az] 0 t).size));simp only[ei]at jb HX hsz;have qs:=aB q2 z2;refine bN.p ?_;refine bN.s ?_;refine bN.h ?_;go_wp2;obtain⟨hP,hU,e9⟩:=jb.aX;refine aM (v:=av (oP ⟨R.2.2,(0,0,0),0,R.2.1,O,0,az⟩ (F A (Z R.2.1) cc))) (by simp[results,results83,go_sem,e9]) rfl ?_;exact⟨_,lo,M,rfl,aZ,g2,hsz.aX,HX.aX.mono λ_ h=>⟨_,rfl,h⟩,HS.aX,hP,hU⟩
end
abbrev tM(nm:String):aQ:=.func (.methodOf 91 nm) #[] #[]
abbrev Re(b:Nat):aQ:=.func (.func 121) #[] #[aj (I ⟨b,0,U⟩)]
abbrev Dt(b:Nat):aQ:=.func (.func 122) #[] #[aj (I ⟨b,0,U⟩)]
abbrev rU(f:FuncId):aQ:=.func (.func f) #[] #[]
abbrev abZ(b1 b2 b3 b4 b5 b6 b7:Nat):List (Int×aQ):=[(1,Re b1),(7,Re b2),(2,Dt b3),(3,Dt b4),(4,Dt b5),(5,Dt b6),(6,Dt b7),(8,rU 75),(9,rU 76),(13,rU 77),(14,rU 78),(10,rU 79),(11,rU 80),(12,rU 81),(15,rU 82),(16,rU 83),(17,rU 84)]
structure apb(gm b1 b2 b3 b4 b5 b6 b7:Nat)(W:aP):Prop where
 map:fP encI W gm (abZ b1 b2 b3 b4 b5 b6 b7)
 c1:bn W b1 144 #[tM "Tick"]
 c2:bn W b2 144 #[tM "Restart"]
 c3:bn W b3 146 #[tM "Deliver"]
 c4:bn W b4 146 #[tM "Drop"]
 c5:bn W b5 146 #[tM "Twice"]
 c6:bn W b6 146 #[tM "Turn"]
 c7:bn W b7 146 #[tM "Crash"]
theorem mL.mono{C t par bj gw O k j W W'}(h:mL C par bj gw O k t W W')(hk:k<=j):mL C par bj gw O j t W W':=⟨⟨h.1.1.mono hk,h.1.2⟩,h.2⟩
section
variable {C aa:Nat->Prop}{par bj:List Int}{gp k gm b1 b2 b3 b4 b5 b6 b7:Nat}{s:qE}{W:aP}
end
structure FC(W:aP)(gm:Nat)(l:List (Int×aQ))(cs:List (Nat×TypeId×aQ))(X:aP):Prop where
 k:K W X
 g:D (L W)<=gm
 m:fP encI X gm l
 c:∀p∈cs,D (L W)<=p.1/\bn X p.1 p.2.1 #[p.2.2]
theorem FC.box{W t l cs X}(h:FC W t l cs X) T v:FC W t l ((D (L X),T,v) :: cs) (X.alloc (aq #[v] T)) :=⟨h.k.al _,h.g,h.m.st (K.new X _),λp j=>by
 rcases List.mem_cons.1 j with rfl|j;exact⟨h.k.size,bn.new X T #[v]⟩;exact⟨(h.c p j).1,(h.c p j).2.alloc _⟩⟩
theorem FC.put{W t l cs X}(h:FC W t l cs X)(k:Int) v(hn:eX l k=U):∃j,(Instr.mapUpdate 94 (.map (I t)) (G J k) v).run aR X=.ok () j/\FC W t (l++[(k,v)]) cs j:=by
 obtain⟨j,r,m,g⟩:=Gy (D3 (P:=aR) (kt:=3) underlying3) underlying94 h.m k v;rw[ah3 hn]at m;have u:bf (λb=>b=t) X j:=bf.gy g λb e=>Tq
 exact⟨j,r,u.k h.k λb e=>e▸h.g,h.g,m,λp y=>⟨(h.c p y).1,(h.c p y).2.cF u λe=>by
  have:=h.m;rw[<- e]at this;exact this.cells (h.c p y).2⟩⟩
theorem FC.fx{W t l cs X}(h:FC W t l cs X) p(j:p∈cs) Y(u:bf (λb=>b<D (L W)) X Y):bn Y p.1 p.2.1 #[p.2.2]:=(h.c p j).2.cF u λe=>by have:=(h.c p j).1;omega
theorem agw j W:aK aR 73 #[tM j] W λe t=>e=ak (Re (D (L W)))/\t=W.alloc (aq #[tM j] 144):=DC
theorem Nx j W:aK aR 74 #[tM j] W λe t=>e=ak (Dt (D (L W)))/\t=W.alloc (aq #[tM j] 146):=DC
theorem aCl W:aK aR 35 #[] W λe j=>∃z T b2 b3 b4 V b6 b7,e=ak (.map (I z))/\Fx (λb=>b<D (L W)) (apb z T b2 b3 b4 V b6 b7) j/\K W j:=by
 have y:FC W (D (L W)) [] [] (aU W (.map #[] 0)):=⟨K.new W _,bP _,fP.new W,λp hp=>by cases hp⟩;have S:=KC (P:=aR) underlying94 W;generalize R:D (L W)=z at y S;have H:=aY y;have HG:=aY R;clear y R;go_in;go_wp2_with fail
 clear S;generalize W.alloc _=C at *;refine (agw "Tick" C).mono ?_;rintro e j ⟨rfl,rfl⟩;obtain ⟨O,r,h⟩:=(H.aX.box 144 (tM "Tick")).put 1 (Re (D (L C))) dH;replace H:=aY h;clear h;go_wp2_with fail
 clear r;refine (agw "Restart" O).mono ?_;rintro e j ⟨rfl,rfl⟩;obtain ⟨Q,r,h⟩:=(H.aX.box 144 (tM "Restart")).put 7 (Re (D (L O))) dH;replace H:=aY h;clear h;go_wp2_with fail
 clear r;refine (Nx "Deliver" Q).mono ?_;rintro e j ⟨rfl,rfl⟩;obtain ⟨B,r,h⟩:=(H.aX.box 146 (tM "Deliver")).put 2 (Dt (D (L Q))) dH;replace H:=aY h;clear h;go_wp2_with fail
 clear r;refine (Nx "Drop" B).mono ?_;rintro e j ⟨rfl,rfl⟩;obtain ⟨M,r,h⟩:=(H.aX.box 146 (tM "Drop")).put 3 (Dt (D (L B))) dH;replace H:=aY h;clear h;go_wp2_with fail
 clear r;refine (Nx "Twice" M).mono ?_;rintro e j ⟨rfl,rfl⟩;obtain ⟨N,r,h⟩:=(H.aX.box 146 (tM "Twice")).put 4 (Dt (D (L M))) dH;replace H:=aY h;clear h;go_wp2_with fail
 clear r;refine (Nx "Turn" N).mono ?_;rintro e j ⟨rfl,rfl⟩;obtain ⟨A,r,h⟩:=(H.aX.box 146 (tM "Turn")).put 5 (Dt (D (L N))) dH;replace H:=aY h;clear h;go_wp2_with fail
 clear r;refine (Nx "Crash" A).mono ?_;rintro e j ⟨rfl,rfl⟩;obtain ⟨X7,r,h⟩:=(H.aX.box 146 (tM "Crash")).put 6 (Dt (D (L A))) dH;replace H:=aY h;clear h;obtain⟨X8,r8,h⟩:=H.aX.put 8 (rU 75) dH;replace H:=aY h;clear h;obtain⟨X9,r9,h⟩:=H.aX.put 9 (rU 76) dH;replace H:=aY h;clear h;obtain⟨X10,r10,h⟩:=H.aX.put 13 (rU 77) dH;replace H:=aY h;clear h;obtain⟨X11,r11,h⟩:=H.aX.put 14 (rU 78) dH;replace H:=aY h;clear h;obtain⟨X12,r12,h⟩:=H.aX.put 10 (rU 79) dH;replace H:=aY h;clear h;obtain⟨X13,r13,h⟩:=H.aX.put 11 (rU 80) dH;replace H:=aY h;clear h;obtain⟨X14,r14,h⟩:=H.aX.put 12 (rU 81) dH;replace H:=aY h;clear h;obtain⟨X15,r15,h⟩:=H.aX.put 15 (rU 82) dH;replace H:=aY h;clear h;obtain⟨X16,r16,h⟩:=H.aX.put 16 (rU 83) dH;replace H:=aY h;clear h;obtain⟨X17,r17,h⟩:=H.aX.put 17 (rU 84) dH;replace H:=aY h;clear h;go_wp2;go_ret;obtain⟨h1,y,X,h3⟩:=H.aX;have t:=H.aX.fx;exact⟨z,D (L C),D (L O),D (L Q),D (L B),D (L M),D (L N),D (L A),rfl,fun Y u=>(by
  rw[<- HG.aX]at u;exact⟨X.cF u aZ,t (D (L C),_,_) bu Y u,t (D (L O),_,_) bu Y u,t (D (L Q),_,_) bu Y u,t (D (L B),_,_) bu Y u,t (D (L M),_,_) bu Y u,t (D (L N),_,_) bu Y u,t (D (L A),_,_) bu Y u⟩),h1⟩
