/-
  The walks of stage.Commit, Settle and Abort, whose lists are the call's own (layer 17). Conditions: lists of at most a million.
-/
import Derived.Test.YtoeiinllelipoaaGreatMa15
import Derived.Test.YtoeiinllelipoaaGreatMz
set_option maxRecDepth 100000
set_option maxHeartbeats 16000000
set_option linter.unusedVariables false
set_option linter.unusedSimpArgs false
namespace Go.Proofs.YtoeiinllelipoaaGreat
open Go Go.RowKit Tryz
theorem ark(l:List bz)(a:av)(v:Value)(w:World)(h:ar cJ l v w)(hl:∀s∈l,eD s.e)(hlen:l.length<=1000000) :
 Calls prog 73 #[v,cN a] w λe w'=>∃v',e=.returned (.tuple #[v',.int .i64 (ny l a).2])/\aX w.heap.size w.heap.size 106 cJ (ny l a).1 v' w'/\K w w':=by
 have C1:=ae λW (N:K w W)=>JS l v W (aW h N) hl hlen
 have X:=ae λW (N:K w W)=>TL l a v W (aW h N) hlen
 obtain⟨A,d,rfl⟩:=az h
 clear h
 have S:=ai.new w 46 #[.int .i64 a.1,.int .u64 (a.2.1:Int),.int .u64 (a.2.2:Int)]
 have F:K w (w.alloc (.cells #[.int .i64 a.1,.int .u64 (a.2.1:Int),.int .u64 (a.2.2:Int)] 46)):=(K.rf w).al _
 have HI:Hid (y6 l a=match qR l a with|some k=>(k:Int)|none=>-1):=ae rfl
 have HC:Hid (ny l a=match qR l a with|none=>(l,170)|some k=>match l[k]? with|none=>(l,170)|some t=>(l.set k ⟨t.e,true⟩,0)):=ae rfl
 have Q:=ae λk h=>@Ob l a k h
 generalize ny l a=R at *
 generalize y6 l a=I at *
 go_enter func73,ntmps73
 go_wp2_with fail
 generalize w.alloc _=G at *
 have C:=F.size
 have D:Hid (w.heap.size=w.heap.size):=ae rfl
 generalize Y:w.heap.size=g at S C D⊢
 replace D:=ae Y
 clear Y
 have qx:=S.cells
 refine (C1.aa G F).mono ?_
 rintro e w2⟨v2,rfl,y,k2⟩
 have B:=F.tr k2
 go_wp2_with fail
 refine (X.aa w2 B).mono ?_
 rintro e j⟨rfl,L⟩
 replace B:=B.tr L
 replace y:=y.st L
 clear C1 X L
 cases ho:qR l a with
 | none => obtain rfl:I=-1:=yV;have HQ:Hid (R=(l,170)):=ae K1;have M:=ae (aX.low (aX.floor y C) C);clear y ho HI HC Q;go_wp2;go_ret2;exact⟨_,jL,by rw[HQ.aa,D.aa];exact M.aa,B⟩
 | some k =>
  obtain rfl:I=(k:Int):=yV;obtain⟨t,h1,-,-,-⟩:=Q.aa k ho;have HQ:Hid (R=(l.set k ⟨t.e,true⟩,0)):=ae V4;obtain⟨hk,Ai⟩:=List.getElem?_eq_some_iff.1 h1;have eF:(k:Int)<(l.length:Int):=af;have Mi:¬(k:Int)<0:=af;have T:=y.blk;obtain⟨css,E,hcl,H⟩:=y;have V:=(H j (aH.rf _ _ _)).lens;have hkc:k<css.length:=af;have cC:=(H j (aH.rf _ _ _)).DX;have J:k*9+8<css.flatten.length:=by rw[cC];show k*9+8<l.length*9;omega
  rcases E.2 with ⟨h0,xY⟩|⟨go,cap,cur,rfl,-⟩
  ·omega
  obtain⟨hcell,U⟩:=EW E;have d8:j.cell? ⟨go,k*9+8,none⟩=css.flatten[k*9+8]?:=hcell _ J;rw[List.getElem?_eq_getElem J]at d8;have z8:=U (k*9+8);have O:=Vg E J (.bool true);have e9:css.flatten.set (k*9+8) (.bool true)=(css.set k ((css[k]).set 8 (.bool true))).flatten:=by rw[show k*9+8=k*cJ.size+8 from rfl];exact N5 cJ.size (.bool true) css V k 8 hkc au
  rw[e9]at O;have hgo:=(T go rfl).1;have k4:K w (j.setCell ⟨go,k*9+8,none⟩ (.bool true)):=B.setCell (by have:=F.size;simp;omega) _;have M:Hid (aX g g 106 cJ (l.set k ⟨t.e,true⟩) (.slice (some ⟨go,0,none⟩) l.length cap) (j.setCell ⟨go,k*9+8,none⟩ (.bool true))):=by refine ae (aX.low (aX.floor (base:=G.heap.size) (lo:=G.heap.size) (e:=106) ⟨css.set k ((css[k]).set 8 (.bool true)),by rw[List.length_set];exact O,by simp[hcl],λw' u=>?_⟩ C) C);have u3:aH G.heap.size (some go) j w':=aH.tr (a:=j) (b:=j.setCell ⟨go,k*9+8,none⟩ (.bool true)) ⟨rfl,rfl,rfl,Vh,λi _ _ h3=>Below.heap_setCell j ⟨go,k*9+8,none⟩ (.bool true) i (by rintro rfl;exact h3 rfl)⟩ u;have MU:=H w' u3;refine MU.set k ?_;obtain⟨vf,ve,hcs,hf,Z⟩:=MU.2 k hk hkc;rw[Ai]at hcs hf Z;exact⟨vf,ve,by rw[hcs];rfl,hf,Z⟩
  clear hcell U E O H V cC T HI HC Q h1 ho;go_wp2;go_ret2;exact⟨_,jL,by rw[HQ.aa,D.aa];exact M.aa,k4⟩
theorem Od(l:List bz)(a:av)(v:Value)(w:World)(h:ar cJ l v w)(Y:∀s∈l,eD s.e)(D:l.length<=1000000) :
 Calls prog 121 #[v,cN a] w λe w'=>∃Q,e=.returned Q/\aX w.heap.size w.heap.size 106 cJ (fc l a) Q w'/\K w w':=by
 have M:=ae λW (C:K w W)=>JS l v W (aW h C) Y D
 have L:=ae λW (C:K w W)=>Oc l a v W (aW h C) D
 obtain⟨A,d,rfl⟩:=az h
 clear h
 have G:=ai.new w 46 #[.int .i64 a.1,.int .u64 (a.2.1:Int),.int .u64 (a.2.2:Int)]
 have j:K w (w.alloc (.cells #[.int .i64 a.1,.int .u64 (a.2.1:Int),.int .u64 (a.2.2:Int)] 46)):=(K.rf w).al _
 have HI:Hid (ph l a=match ju l a with|some k=>(k:Int)|none=>-1):=ae rfl
 have HC:Hid (fc l a=match ju l a with|none=>l|some k=>l.eraseIdx k):=ae rfl
 have E:=ae λk h=>@J0 l a k h
 generalize fc l a=R at *
 go_enter func121,ntmps121
 go_wp2_with fail
 generalize w.alloc _=J at *
 refine (M.aa J j).mono ?_
 rintro e Z⟨H,rfl,i,k2⟩
 have q:=G.cells
 have u:=j.tr k2
 generalize ph l a=I at *
 clear G
 go_wp2_with fail
 refine (L.aa Z u).mono ?_
 rintro e U⟨rfl,y⟩
 replace u:=u.tr y
 replace i:=i.st y
 clear M L y
 cases ho:ju l a with
 | none => obtain rfl:I=-1:=yV;have HQ:Hid (R=l):=ae K1;have HW:=ae (aX.low (aX.floor i j.size) j.size);clear i ho HI HC E;go_wp2;go_ret;exact⟨_,rfl,Fh,u⟩
 | some k =>
  obtain rfl:I=(k:Int):=yV;have HQ:Hid (R=l.eraseIdx k):=ae K1;obtain⟨t,O,-⟩:=E.aa k ho;obtain⟨hk,-⟩:=List.getElem?_eq_some_iff.1 O;have B:=apc l J.heap.size k (k+1) rfl H U i hk D;rw[show ((k+1:Nat):Int)=(k:Int)+1 by omega]at B;have X:=ae B;clear B;have hb:=i.blk;have Mi:¬(k:Int)<0:=af;have F:=j.size;have V:Hid (∀g,H.ownBlock=some g->w.heap.size<=g):=ae λg h=>bq F (hb g h).1
  have eF:(k:Int)<1000000:=af;clear i ho HI HC E O hb;go_wp2_with fail
  refine X.aa.mono ?_;rintro e w4⟨v4,rfl,S,N⟩;have HW:=ae (aX.low (aX.floor S F) F);have T:K w w4:=(aH.fM N 0).k u V.aa;clear S N;go_wp2;go_ret;exact⟨_,rfl,Fh,T⟩
theorem ata(l:List bz)(a:av)(v:Value)(w:World)(h:ar cJ l v w)(B:∀s∈l,eD s.e)(t:l.length<=1000000) :
 Calls prog 74 #[v,cN a] w λe w'=>∃u,e=.returned (.tuple #[u,.int .i64 (pQ l a).2])/\aX w.heap.size w.heap.size 106 cJ (pQ l a).1 u w'/\K w w':=by
 have C1:=ae λW (i:K w W)=>JS l v W (aW h i) B t
 have C2:=ae λW (i:K w W)=>TL l a v W (aW h i) t
 have C3:=ae λW (i:K w W)=>Od l a v W (aW h i) B t
 obtain⟨A,d,rfl⟩:=az h
 clear h
 have D:=ai.new w 46 #[.int .i64 a.1,.int .u64 (a.2.1:Int),.int .u64 (a.2.2:Int)]
 have y:K w (w.alloc (.cells #[.int .i64 a.1,.int .u64 (a.2.1:Int),.int .u64 (a.2.2:Int)] 46)):=(K.rf w).al _
 have HI:Hid (y6 l a=match qR l a with|some k=>(k:Int)|none=>-1):=ae rfl
 have j:Hid (pQ l a=if (qR l a).isSome then (fc l a,0)else (l,170)):=ae rfl
 generalize pQ l a=R at *
 have q:=D.cells
 go_enter func74,ntmps74
 go_wp2_with fail
 generalize w.alloc _=F at *
 refine (C2.aa F y).mono ?_
 rintro e C⟨rfl,E⟩
 have bw:=y.tr E
 generalize y6 l a=I at *
 cases ho:qR l a with
 | none =>
  obtain rfl:I=-1:=yV;have HQ:Hid (R=(l,170)):=ae (by rw[j.aa,ho];rfl);clear ho HI j;go_wp2_with fail
  refine (C1.aa C bw).mono ?_;exact ag5
 | some k =>
  obtain rfl:I=(k:Int):=yV;have HQ:Hid (R=(fc l a,0)):=ae (by rw[j.aa,ho];rfl);clear ho HI j;generalize fc l a=T at *;go_wp2_with fail
  refine (C3.aa C bw).mono ?_;exact ag5
theorem JV{M:Nat->Prop}{p:cV}{B:aB}{w:World}(h:bC M p B w) :
 Calls prog 55 #[.pointer (some ⟨p.g,0,none⟩)] w λe w'=>e=.returned (.bool (jO B))/\K w w':=by
 have HR:Hid (jO B=decide (B.me=0)):=ae rfl
 have q:=h.blk.cell
 obtain⟨g,gl,gd,gr,gt,vd,vr,vp,vh,vl,vq,va,vt,vf,vw,kr⟩:=p
 simp only at q
 clear h
 have kk:=K.rf w
 generalize jO B=R at *
 go_enter func55,ntmps55
 go_wp2
 go_ret
 exact⟨fo,kk⟩
theorem N8{M:Nat->Prop}{p:cV}{B:aB}{w:World}(h:bC M p B w)(t:bH B) :
 Calls prog 54 #[.pointer (some ⟨p.g,0,none⟩)] w λe w'=>∃u,e=.returned u/\aT (λk=>k<w.heap.size) w.heap.size 3 eS (mF B) u w'/\K w w':=by
 have hn:B.par.length<=1000000:=by have:=vO t.tr;omega
 have q:=h.q
 have s:=ae λW (k:K w W)=>ap4 B.par B.me p.vp W (h.bL.at k).par hn
 have y:=az h.bL.now.par
 obtain⟨g,gl,gd,gr,gt,vd,vr,vp,vh,vl,vq,va,vt,vf,vw,kr⟩:=p
 simp only at q s y
 obtain⟨A,c,rfl⟩:=y
 clear h t
 unfold mF
 generalize Fw B.par B.me=R at *
 go_enter func54,ntmps54
 go_upto_region 1 with (fail)
 refine eM 9 [([],[]),([0],[(3,0)]),([1],[(4,1)]),([2],[(5,2)]),([],[]),([4],[(7,4)]),([5],[(8,5)]),([6],[(9,6)]),([3,7],[(6,3),(10,7)]),([0,1,2,3,4,5,6,7,8],[(11,8)])] 12 rfl ak ak ak ak au ?_
 simp only[dR,dN,ew,dP]
 iterate 8 (apply aV.is;intro V W kW i;(try simp only[aI,aJ,aM,aE,aF,ag]at i);simp[aL,aw,List.lookup,i,aS,execOp,ay,ag,aN,kW,q,go_sem];rfl)
 refine aV.op (λv W=>aT (λk=>k<w.heap.size) w.heap.size 3 eS R v W) (λ_ _ _ h k=>h.st k) (λV W kW i=>?_) ?_
 ·(try simp only[aI,aJ,aM,aE,aF,ag]at i)
  simp[aL,aw,List.lookup,i,aS,execOp,ay,q,go_sem];refine (s.aa W kW).mono ?_;exact Pt
 intro V W kW C
 simp only[aJ,aM,eA,ag,Nat.reduceAdd]at C
 obtain⟨I,G,L,F,H,E,D,J,hO,-⟩:=C
 obtain⟨N,c2,j⟩:=hO.slice
 rw[j]at hO
 apply bu.pure
 rfl
 simp[aw,List.lookup,bj,j,execOp,ay,go_sem]
 rfl
 refine bu.nil ?_
 simp only[bF,Act.put,cO,cM,cL,Nat.reduceAdd,bj,I,G,L,F,H,E,D,J,j]
 go_wp2
 go_ret
 exact⟨_,rfl,hO,kW⟩
theorem ab0(l:List av)(a:av):(qV (og l) a).isSome=dx l a:=by
 have key:∀(l:List av) (n i:Nat),(jT a ((l.zipIdx n).map λp=>(p.1,Value.int .i64 (p.2:Int))) i).isSome=dx l a:=by
  intro l
  induction l with
  | nil=>intro n i;rfl
  | cons x l j =>
   intro n i;simp only[List.zipIdx_cons,j9,jT,dx,List.any_cons];by_cases h:x=a
   ·simp[h]
   ·simp only[h,if_false,decide_false,Bool.false_or];exact j (n+1) (i+1)
 unfold qV og;rw[Option.isSome_map];exact key l 0 0
theorem V5(W:World):(zeroValue 3).run prog W=.ok (.int .i64 0) W:=by kernel_rfl
theorem Tb{M:Nat->Prop}{p:cV}{B:aB}{w:World}(h:bC M p B w)(hG:bH B)(a:av) :
 Calls prog 41 #[.pointer (some ⟨p.g,0,none⟩),cN a] w λe w'=>e=.returned (.bool (sS B a))/\K w w':=by
 have u:Hid (sS B a=(dx B.told a||dx B.st.ab a)):=ae rfl
 have s:K w (w.alloc (.cells #[.int .i64 a.1,.int .u64 (a.2.1:Int),.int .u64 (a.2.2:Int)] 46)):=(K.rf w).al _
 have hb:=ai.new w 46 #[.int .i64 a.1,.int .u64 (a.2.1:Int),.int .u64 (a.2.2:Int)]
 have H:=ae h
 have F:=ae λW (k:K w W)=>Hs B.st a (.agg (bS B.st p.vl p.vq p.va)) W ⟨_,_,_,rfl,(h.bL.at k).list,(h.bL.at k).prom,(h.bL.at k).ab⟩ Bf
 have A:=ae λW (k:K w W)=>(Ig Qs underlying93 (V5 W) (h.vA.st k) a).1
 simp only[ab0]at A
 have G:=az h.bL.now.list
 have D:=az h.bL.now.prom
 have E:=az h.bL.now.ab
 have q:=h.q
 obtain⟨g,gl,gd,gr,gt,vd,vr,vp,vh,vl,vq,va,vt,vf,vw,kr⟩:=p
 simp only at q F A G D E
 obtain⟨L,cl,rfl⟩:=G
 obtain⟨N,J,rfl⟩:=D
 obtain⟨Q,S,rfl⟩:=E
 generalize (qV (og B.told) a).getD (.int .i64 0)=I at *
 generalize sS B a=R at *
 clear h hG H
 go_enter func41,ntmps41
 go_upto_region 1 with (fail)
 generalize w.alloc _=C at *
 generalize w.heap.size=O at hb⊢
 have t:=hb.cells
 have y:=λW (k:K C W)=>q W (s.tr k)
 have j:∀W,K C W->(Instr.lookup 93 (.map (some gt)) (.agg #[.int .i64 a.1,.int .u64 (a.2.1:Int),.int .u64 (a.2.2:Int)]) true).run prog W=.ok (.tuple #[I,.bool (dx B.told a)]) W:=λW k=>A.aa W (s.tr k)
 cases ht:dx B.told a
 ·have HQ:Hid (R=dx B.st.ab a):=ae (by rw[u.aa,ht];rfl);rw[ht]at j;clear ht u;refine eM 11 [([],[]),([0],[(8,0)]),([1],[(9,1)]),([2],[(10,2)]),([],[]),([3,4],[(11,3),(12,4)]),([5],[(13,5)]),([6],[(7,6)]),([6],[(7,6)]),([7],[(14,7)]),([8],[(15,8)])] 25 rfl ak ak ak ak au ?_;simp only[dR,dN,ew,dP];iterate 11 (apply aV.is;intro V W kW hp;(try simp only[aI,aJ,aM,aE,aF,ag]at hp);simp[aL,aw,List.lookup,hp,aS,execOp,ay,ag,aN,kW,y,t,j,go_sem];rfl)
  intro V W kW hA;simp only[aJ,aM,eA,ag,Nat.reduceAdd]at hA;refine bu.nil ?_;simp only[bF,Act.put,cO,cM,cL,Nat.reduceAdd,hA];have q2:=λi (k:K W i)=>q i (s.tr (kW.tr k))
  have pJ:=λi (k:K W i)=>t i (kW.tr k)
  have k2:=s.tr kW;generalize dx B.st.ab a=Z at *;clear hA y j t hb;go_upto_region 2 with (fail);refine eM 10 [([],[]),([0],[(16,0)]),([1],[]),([1,2],[(18,2)]),([1,3],[(19,3)]),([1,4],[(20,4)]),([1],[]),([1,5,6],[(21,5),(22,6)]),([1,7],[(17,1),(23,7)]),([8],[(24,8)])] 25 rfl ak ak ak ak au ?_;simp only[dR,dN,ew,dP];iterate 7 (apply aV.is;intro V W kW hp;(try simp only[aI,aJ,aM,aE,aF,ag]at hp);simp[aL,aw,List.lookup,hp,aS,execOp,ay,ag,aN,kW,q2,pJ,go_sem];rfl)
  refine aV.is (.bool Z) (λV W kW hp=>?_) ?_
  ·(try simp only[aI,aJ,aM,aE,aF,ag]at hp)
   simp[aL,aw,List.lookup,hp,aS,execOp,ay,ag,q2,pJ,go_sem];refine (F.aa W (k2.tr kW)).mono ?_;exact sW
  exact ag6
 ·have HQ:Hid (R=true):=ae (by rw[u.aa,ht];rfl);rw[ht]at j;clear ht u;refine eM 11 [([],[]),([0],[(8,0)]),([1],[(9,1)]),([2],[(10,2)]),([],[]),([3,4],[(11,3),(12,4)]),([5],[(13,5)]),([6],[(7,6)]),([6],[(7,6)]),([7],[(14,7)]),([8],[(15,8)])] 25 rfl ak ak ak ak au ?_;simp only[dR,dN,ew,dP];iterate 11 (apply aV.is;intro V W kW hp;(try simp only[aI,aJ,aM,aE,aF,ag]at hp);simp[aL,aw,List.lookup,hp,aS,execOp,ay,ag,aN,kW,y,t,j,go_sem];rfl)
  intro V W kW hA;simp only[aJ,aM,eA,ag,Nat.reduceAdd]at hA;refine bu.nil ?_;simp only[bF,Act.put,cO,cM,cL,Nat.reduceAdd,hA];have q2:=λi (k:K W i)=>q i (s.tr (kW.tr k))
  have pJ:=λi (k:K W i)=>t i (kW.tr k)
  have k2:=s.tr kW;clear hA y j t hb;go_upto_region 2 with (fail);refine eM 10 [([],[]),([0],[(16,0)]),([1],[]),([1,2],[(18,2)]),([1,3],[(19,3)]),([1,4],[(20,4)]),([1],[]),([1,5,6],[(21,5),(22,6)]),([1,7],[(17,1),(23,7)]),([8],[(24,8)])] 25 rfl ak ak ak ak au ?_;simp only[dR,dN,ew,dP];iterate 7 (apply aV.is;intro V W kW hp;(try simp only[aI,aJ,aM,aE,aF,ag]at hp);simp[aL,aw,List.lookup,hp,aS,execOp,ay,ag,aN,kW,q2,pJ,go_sem];rfl)
  (apply aV.is;intro V W kW hp;(try simp only[aI,aJ,aM,aE,aF,ag]at hp);simp[aL,aw,List.lookup,hp,aS,execOp,ay,ag,aN,kW,q2,pJ,go_sem];rfl)
  exact ag6
theorem jF.small{l:List bz}(h:jF l):∀t∈l,eD t.e:=λt i=>tK (h.each t i).1
def Qv(lo:Nat)(t:TypeId)(cs:Array Value)(v:Value)(W:World):Prop:=∃b,v=.pointer (some ⟨b,0,none⟩)/\lo<=b/\ai W b t cs
theorem av9(lo:Nat)(t:TypeId)(cs:Array Value):∀v w w',Qv lo t cs v w->Below w.heap.size w w'->Qv lo t cs v w':=by rintro v w w'⟨b,e,i,h⟩ k;exact⟨b,e,i,h.below k h.lt⟩
theorem auW{lo:Nat}(t:TypeId)(cs:Array Value)(W:World)(h:lo<=W.heap.size):Qv lo t cs (.pointer (some ⟨W.heap.size,0,none⟩)) (W.alloc (.cells cs t)):=⟨_,rfl,h,ai.new W t cs⟩
section
variable {M:Nat->Prop} {p:cV} {B:aB} {w:World}
theorem bC.LH(h:bC M p B w){l:List bz}{v:Value}(i:Fx M (λW=>ar cJ l v W) w):bC M { p with vt:=v } { B with aK:=l } (w.setCell ⟨p.g,8,none⟩ v) :=
 h.cell 8 v (h.blk.aR 8 v) ⟨rfl,rfl,rfl,rfl,rfl,rfl,rfl,rfl⟩ ⟨rfl,rfl⟩ λW u d=>⟨d.par,d.aZ,d.list,d.prom,d.ab,i W u,d.eX,d.waits,d.bR⟩
theorem bC.ay1(h:bC M p B w)(n:Nat):bC M p { B with calls:=n } (w.setCell ⟨p.g,9,none⟩ (.int .u64 (n:Int))) :=
 h.cell 9 _ (h.blk.aR 9 _) ⟨rfl,rfl,rfl,rfl,rfl,rfl,rfl,rfl⟩ ⟨rfl,rfl⟩ λW u d=>⟨d.par,d.aZ,d.list,d.prom,d.ab,d.aK,d.eX,d.waits,d.bR⟩
theorem bC.ay2(h:bC M p B w){l:List aq}{v:Value}(i:Fx M (λW=>ar aQ l v W) w):bC M { p with vw:=v } { B with waits:=l } (w.setCell ⟨p.g,13,none⟩ v) :=
 h.cell 13 v (h.blk.aR 13 v) ⟨rfl,rfl,rfl,rfl,rfl,rfl,rfl,rfl⟩ ⟨rfl,rfl⟩ λW u d=>⟨d.par,d.aZ,d.list,d.prom,d.ab,d.aK,d.eX,i W u,d.bR⟩
theorem bC.ay3(h:bC M p B w){l:List av}{v:Value}(i:Fx M (λW=>ar bI l v W) w):bC M { p with vf:=v } { B with refused:=l } (w.setCell ⟨p.g,11,none⟩ v) :=
 h.cell 11 v (h.blk.aR 11 v) ⟨rfl,rfl,rfl,rfl,rfl,rfl,rfl,rfl⟩ ⟨rfl,rfl⟩ λW u d=>⟨d.par,d.aZ,d.list,d.prom,d.ab,d.aK,i W u,d.waits,d.bR⟩
theorem bC.akF{p':cV}{B':aB}{w':World}(h:bC M p B w)(hg:p'.g=p.g/\p'.gl=p.gl/\p'.gd=p.gd/\p'.gr=p.gr/\p'.gt=p.gt/\p'.vd=p.vd/\p'.vr=p.vr)(A:bC M p' B' w')(u:ah (bn p) w w'):cW M p B' w w':=by
 have i:∀k,bn p' k↔bn p k:=λk=>by obtain⟨D,F,y,C,t,j,E⟩:=hg;unfold bn;rw[D,F,y,C,t,j,E]
 exact⟨p',A.less (λk hk=>.inr hk) (λk hk=>hk.elim id λs=>h.sub k ((i k).1 s)),u,(by unfold cV.key;rw[hg.1,hg.2.2.1]),λk hk=>.inl ((i k).1 hk)⟩
theorem aX.RA{e:TypeId}{α:Type}{S:cF α}{l:List α}{v:Value}{w':World}(h:aX w.heap.size w.heap.size e S l v w')(i:∀k,M k->k<w.heap.size):Fx M (λW=>Go.Proofs.YtoeiinllelipoaaGreat.ar S l v W) w':=(h.sG.fx λ_ h=>h).less i
end
theorem Tv{M:Nat->Prop}{p:cV}{B:aB}{w:World}(h:bC M p B w){l:List bz}{v:Value}(c:Int)(i:Fx M (λW=>ar cJ l v W) w) :
 Calls prog 71 #[.pointer (some ⟨p.g,0,none⟩),v,.int .i64 c] w λe w'=>e=.returned (.int .i64 (gF B (l,c)).2)/\cW M p (gF B (l,c)).1 w w':=by
 have j:Hid (gF B (l,c)=if c=0 then ({ B with aK:=l },0)else (B,c)):=ae rfl
 generalize gF B (l,c)=R at *
 have s:=ae (h.akF (p':={ p with vt:=v }) ⟨rfl,rfl,rfl,rfl,rfl,rfl,rfl⟩ (h.LH i) (ah.b6 (X:=bn p) (.inl rfl) 8 v))
 have t:=ae (h.n (K.rf w))
 have q:=h.blk.cell
 have z:=h.blk.frozen
 obtain⟨A,cc,rfl⟩:=az i.now
 obtain⟨g,gl,gd,gr,gt,vd,vr,vp,vh,vl,vq,va,vt,vf,vw,kr⟩:=p
 simp only at q z s t
 clear h i
 go_enter func71,ntmps71
 by_cases hc:c=0
 ·subst hc;have HR:Hid (R=({ B with aK:=l },0)):=ae (by rw[j.aa,if_pos rfl]);go_wp2;go_ret;exact⟨fo,by rw[HR.aa];exact s.aa⟩
 ·have HR:Hid (R=(B,c)):=ae (by rw[j.aa,if_neg hc]);have u:(c==0)=false:=KU;go_wp2;go_ret;exact⟨fo,by rw[HR.aa];exact t.aa⟩
theorem abr{M:Nat->Prop}{p:cV}{B:aB}{w:World}(h:bC M p B w)(hG:bH B)(c:Int)(f:Nat)(cs:Array Value)(i:List bz×Int)(hf:∀args W,(callFunc f args).run prog W=.ok (.enter f args) W)
 (akG:∀W,K w W->Calls prog f (#[cN (pz B)]++cs) W λe w'=>∃v',e=.returned (.tuple #[v',.int .i64 i.2])/\aX W.heap.size W.heap.size 106 cJ i.1 v' w'/\K W w') :
 Calls prog 33 #[.pointer (some ⟨p.g,0,none⟩),.int .i64 c,.func (.func f) #[] cs] w λe w'=>e=.returned (.tuple #[cN (lF B c i).2.1,.int .i64 (lF B c i).2.2])/\cW M p (lF B c i).1 w w':=by
 have Z:Hid (lF B c i=if Bm B c then (if i.2=0 then ({ B with aK:=i.1,calls:=B.calls+1 },pz B,0)else (B,(0,0,0),i.2))else (B,(0,0,0),200)):=ae rfl
 generalize lF B c i=R at *
 have H:=ae h
 have HX:=ae λk hk=>h.low k (h.sub k hk)
 have HM:=ae h.low
 have hcl:=hG.calls
 have C1:=ae λW (k:K w W)=>abp (h.st k) hG c
 have C2:=ae akG
 have q:=h.q
 have k0:K w (w.alloc (.cells #[.int .i64 0,.int .u64 0,.int .u64 0] 46)):=(K.rf w).al _
 have hr:=ai.new w 46 #[.int .i64 0,.int .u64 0,.int .u64 0]
 generalize Bm B c=HB at *
 generalize jz:pz B=s at *
 obtain⟨t,dK⟩:∃n,n=B.calls+1:=⟨_,rfl⟩
 have xU:Hid (s=(B.me,B.st.life,t)):=ae (by rw[dK];exact jz.symm)
 have T:IntKind.u64.wrap ((B.calls:Int)+1)=(t:Int):=by rw[IntWalk.u64_in _ (by omega),dK];omega
 have HN1:=ae dK
 clear dK hcl
 clear h hG akG jz
 go_enter func33,ntmps33
 go_upto_region 1 with (fail)
 generalize w.alloc _=w1 at *
 generalize eC:w.heap.size=j at hr⊢
 have Cq:=ae eC
 clear eC
 go_wp2_with fail
 refine (C1.aa w1 k0).mono ?_
 rintro e Q⟨rfl,k2⟩
 have A:=hr.below k2 hr.lt
 have bw:=k0.tr k2
 clear C1 hr
 cases MV:HB
 ·have y:Hid (R=(B,(0,0,0),200)):=ae (by rw[Z.aa,MV];rfl);have O:=A.cell;have U:=A.frozen;clear Z C2 q;go_wp2;have Y:ai (World.setCell (World.setCell (World.setCell Q _ _) _ _) _ _) j 46 #[.int .i64 0,.int .u64 0,.int .u64 0]:=((A.aR 0 (.int .i64 0)).aR 1 (.int .u64 0)).aR 2 (.int .u64 0);have kS:=K.set (K.set (K.set bw (r:=j) V6 0 (.int .i64 0)) (r:=j) V6 1 (.int .u64 0)) (r:=j) V6 2 (.int .u64 0);clear O U A;generalize World.setCell (World.setCell (World.setCell Q _ _) _ _) _ _=W9 at *;have e9:=Y.cell;try rw[gS]
  refine bodyPost_ret (v:=.tuple #[cN (0,0,0),.int .i64 200]) V7 rfl ?_;exact⟨by rw[y.aa],by rw[y.aa];exact H.aa.n kS⟩
 have Ge:Hid (R=if i.2=0 then ({ B with aK:=i.1,calls:=B.calls+1 },s,0)else (B,(0,0,0),i.2)):=ae (by rw[Z.aa,MV,if_pos rfl])
 have q2:=λW (k:K Q W)=>q W (bw.tr k)
 subst MV
 clear Z q
 obtain⟨g,gl,gd,gr,gt,vd,vr,vp,vh,vl,vq,va,vt,vf,vw,kr⟩:=p
 simp only at q2
 go_upto_region 5 with (fail)
 refine eM 16 [([],[]),([0],[(19,0)]),([1],[(20,1)]),([2],[(21,2)]),([],[]),([4],[(23,4)]),([5],[(24,5)]),([6],[(25,6)]),([7],[(26,7)]),([],[]),([9],[(28,9)]),([10],[(29,10)]),([11],[(30,11)]),([12],[(31,12)]),([3,8,13],[(22,3),(27,8),(32,13)]),([],[]),([0,1,2,3,4,5,6,7,8,9,10,11,12,13,14,15],[(8,15),(33,14)])] 56 rfl ak ak ak ak au ?_
 simp only[dR,dN,ew,dP]
 iterate 15 (apply aV.is;intro V W I hp;(try simp only[aI,aJ,aM,aE,aF,ag]at hp);simp[aL,aw,List.lookup,hp,aS,execOp,ay,ag,aN,I,q2,T,go_sem];rfl)
 refine aV.op (Qv (Q.heap.size) 46 #[.int .i64 0,.int .u64 0,.int .u64 0]) (av9 _ _ _) (λV W I hp=>?_) ?_
 ·simp[aL,aw,List.lookup,aS,execOp,ay,go_sem];exact⟨auW _ _ _ I.size,(K.rf W).al _⟩
 intro V W I hA
 simp only[aJ,aM,eA,ag,Nat.reduceAdd]at hA
 obtain⟨e0,e1,e2,e3,e4,e5,e6,e7,e8,e9,gX,rN,Gy,Cr,MW,⟨b8,Gz,S,rO⟩,-⟩:=hA
 have E:=rO.cell
 have z8:=rO.frozen
 obtain⟨F,RB⟩:∃F,F=World.setCell (World.setCell (World.setCell W ⟨b8,0,none⟩ (.int .i64 B.me)) ⟨b8,1,none⟩ (.int .u64 (B.st.life:Int))) ⟨b8,2,none⟩ (.int .u64 (t:Int)):=⟨_,rfl⟩
 refine bu.skip F rfl (by rw[RB];simp[aw,List.lookup,MW,Gz,bj,execOp,ay,E,z8,go_sem]) ?_
 refine bu.nil ?_
 simp only[bF,Act.put,cO,cM,cL,Nat.reduceAdd,bj,e0,e1,e2,e3,e4,e5,e6,e7,e8,e9,gX,rN,Gy,Cr,MW,Gz]
 have GA:ai F b8 46 #[.int .i64 s.1,.int .u64 (s.2.1:Int),.int .u64 (s.2.2:Int)]:=by rw[RB,xU.aa];exact ((rO.aR 0 (.int .i64 B.me)).aR 1 (.int .u64 (B.st.life:Int))).aR 2 (.int .u64 (t:Int))
 have k8:K Q F:=by rw[RB];exact K.set (K.set (K.set I S 0 _) S 1 _) S 2 _
 have L:=A.below k8 A.lt
 have G:=bw.tr k8
 have HB8:=ae S
 have C3:=ae (C2.aa F G)
 have HW:=ae T
 clear E z8 rO A S RB e0 e1 e2 e3 e4 e5 e6 e7 e8 e9 gX rN Gy Cr MW Gz I q2 T C2 k8
 have E:=GA.cell
 go_wp2_with fail
 refine C3.aa.mono ?_
 rintro e u⟨v4,rfl,cE,C⟩
 have iN:=Cq.aa
 have iX:=(G.tr C).size
 have aDk:j<u.heap.size:=bB L.lt C.size
 have N:bC (λk=>M k∨k=j) _ B u:=H.aa.far (X:=λ_=>False) (ah.bg (G.tr C) _) (λk hk=>hk.elim) (λk hk=>hk.elim) (λk hk D=>D.resolve_right af) (λk hk=>.inl (H.aa.sub k hk)) (λk hk=>hk.elim (λh=>bB (HM.aa k h) iX) λe=>af)
 have gI:Fx (λk=>M k∨k=j) (λW=>ar cJ i.1 v4 W) u:=cE.RA λk hk=>hk.elim (λh=>bB (HM.aa k h) G.size) λe=>e▸L.lt
 have Ju:=GA.below C GA.lt
 have J:=L.below C L.lt
 have oX:=G.tr C
 obtain⟨A4,c4,rfl⟩:=az gI.now
 clear C3 cE C E GA L G
 by_cases hc:i.2=0
 rotate_left
 ·have y:Hid (R=(B,(0,0,0),i.2)):=ae (by rw[Ge.aa,if_neg hc]);have gq:(i.2 != 0)=true:=KU;have O:=J.cell;have U:=J.frozen;clear N gI Ju Ge;go_wp2;have Y:ai (World.setCell (World.setCell (World.setCell u _ _) _ _) _ _) j 46 #[.int .i64 0,.int .u64 0,.int .u64 0]:=((J.aR 0 (.int .i64 0)).aR 1 (.int .u64 0)).aR 2 (.int .u64 0);have kS:=K.set (K.set (K.set oX (r:=j) af 0 (.int .i64 0)) (r:=j) af 1 (.int .u64 0)) (r:=j) af 2 (.int .u64 0);clear O U J;generalize World.setCell (World.setCell (World.setCell u _ _) _ _) _ _=W9 at *;have e9:=Y.cell;try rw[gS]
  refine bodyPost_ret (v:=.tuple #[cN (0,0,0),.int .i64 i.2]) V7 rfl ?_;exact⟨by rw[y.aa],by rw[y.aa];exact H.aa.n kS⟩
 ·have y:Hid (R=({ B with aK:=i.1,calls:=B.calls+1 },s,0)):=ae (by rw[Ge.aa,if_pos hc]);have q4:=N.blk.cell;have z4:=N.blk.frozen;have Ey:bC (λk=>M k∨k=j) ⟨g,gl,gd,gr,gt,vd,vr,vp,vh,vl,vq,va,.slice A4 i.1.length c4,vf,vw,kr⟩ { B with aK:=i.1,calls:=t } ((u.setCell ⟨g,8,none⟩ (.slice A4 i.1.length c4)).setCell ⟨g,9,none⟩ (.int .u64 (t:Int))):=(N.LH gI).ay1 t;have u5:ah (λk=>k=g) u ((u.setCell ⟨g,8,none⟩ (.slice A4 i.1.length c4)).setCell ⟨g,9,none⟩ (.int .u64 (t:Int))):=(ah.b6 (X:=λk=>k=g) rfl 8 _).tr (ah.b6 (X:=λk=>k=g) rfl 9 _);have ij:g<w.heap.size:=HX.aa g (.inl rfl);have aDl:=HB8.aa;have hz2:=bw.size;have RC:=Ju.bT u5 af;have fq:=J.bT u5 af;have T:IntKind.u64.wrap ((B.calls:Int)+1)=(t:Int):=HW.aa;rw[hc];clear N gI hc Ge Ju J;simp only at q4 z4;go_upto_region 11 with (fail);generalize (u.setCell ⟨g,8,none⟩ _).setCell ⟨g,9,none⟩ _=w5 at *;clear q4 z4 T;have E:=RC.cell;have O:=fq.cell;have U:=fq.frozen;go_wp2;have Y:ai (World.setCell (World.setCell (World.setCell w5 _ _) _ _) _ _) j 46 #[.int .i64 s.1,.int .u64 (s.2.1:Int),.int .u64 (s.2.2:Int)]:=((fq.aR 0 (.int .i64 s.1)).aR 1 (.int .u64 (s.2.1:Int))).aR 2 (.int .u64 (s.2.2:Int));have u9:ah (λk=>k=j) w5 _:=((ah.b6 (X:=λk=>k=j) rfl 0 (.int .i64 s.1)).tr (ah.b6 (X:=λk=>k=j) rfl 1 (.int .u64 (s.2.1:Int)))).tr (ah.b6 (X:=λk=>k=j) rfl 2 (.int .u64 (s.2.2:Int)));clear O U fq E;generalize World.setCell (World.setCell (World.setCell w5 _ _) _ _) _ _=W9 at *;have e9:=Y.cell;have ou:=u5.size;have nr:=u9.size;have sI:=Ey.far (M':=M) u9 (λk hk=>.inr hk) (λk hk D=>by have:=HX.aa k D;omega) (λk hk D=>.inl D) (λk hk=>H.aa.sub k hk) (λk hk=>by have:=HM.aa k hk;omega);have hU:ah (bn ⟨g,gl,gd,gr,gt,vd,vr,vp,vh,vl,vq,va,vt,vf,vw,kr⟩) w W9:=((ah.bg oX _).tr (u5.more λk hk=>.inl hk)).iA u9 λk hk D=>af
  have RD:=ae (H.aa.akF (p':=⟨g,gl,gd,gr,gt,vd,vr,vp,vh,vl,vq,va,.slice A4 i.1.length c4,vf,vw,kr⟩) ⟨rfl,rfl,rfl,rfl,rfl,rfl,rfl⟩ sI hU);try rw[gS]
  refine bodyPost_ret (v:=.tuple #[cN s,.int .i64 0]) V7 rfl ?_;exact⟨by rw[y.aa],by rw[y.aa,<- HN1.aa];exact RD.aa⟩
theorem atb(l:List bz)(t:bz):jj (l++[t])=if t.asked=true/\(jj l).length<4 then jj l++[t.e]else jj l:=by
 unfold jj;rw[List.filter_append,List.map_append,List.take_append];generalize ((l.filter bz.asked).map bz.e)=X;rcases t with ⟨e,b⟩;cases b
 ·simp
 ·simp only[od,true_and,List.filter_cons,if_true,List.filter_nil,j9,List.map_nil];split
  ·rename_i h;rw[eT (l:=[e]) aU]
  ·rename_i h;rw[show 4-X.length=0 by omega,dN,List.append_nil]
theorem awa:(prog.info? 102).map (λi=>(i.zero,i.size,i.bytes))=some (some (.agg ez),8,96):=by kernel_rfl
theorem ay4:gJ prog 39 102 (.agg ez) 8 96:=⟨underlying39,awa,rfl,au⟩
theorem arl(l:List bz)(v:Value)(w:World)(h:ar cJ l v w)(hs:∀t∈l,eD t.e)(hn:l.length<=1000000) :
 Calls prog 128 #[v] w λe w'=>∃v',e=.returned v'/\aX w.heap.size w.heap.size 102 aQ (jj l) v' w'/\K w w':=by
 obtain⟨A,c,rfl,hl,hc⟩:=h
 have HS:=ae hs
 clear hs
 have kk:=K.rf w
 go_enter func128,ntmps128
 go_wp2_with fail
 go_loopw [3,5,8] (fun o _ i W=>∃j:Nat,j<=l.length/\i=.int .i64 (j:Int)/\aX w.heap.size w.heap.size 102 aQ (jj (l.take j)) o W/\K w W) (fun _ _ i _=>l.length-(intOf i).toNat)
 case atStart=>exact⟨0,af,rfl,by simpa [jj]using aX.nil _ _ _ _ _,kk⟩
 case round =>
  clear kk;obtain⟨j,hj,rfl,hO,kr⟩:=hrel;by_cases T:j<l.length
  ·have ba:(j:Int)<(l.length:Int):=af;obtain⟨b1,off,cs,rfl,Q,hrl,N,d⟩:=dM hl j T au;have C:Hid (jj (l.take (j+1))=if l[j].asked=true/\(jj (l.take j)).length<4 then jj (l.take j)++[l[j].e]else jj (l.take j)):=ae (by rw[gE T,atb]);have hst:=HS.aa _ (bW T);generalize l[j]=t at *;obtain⟨vf,ve,rfl,Y,R⟩:=hrl w (K.rf w);obtain⟨E,F,rfl⟩:=cB Y;obtain⟨D,G,rfl⟩:=az R;have HE:Hid (∀W,K w W->cR t.e (.agg (aA t.e (.slice E t.e.f.length F) (.slice D t.e.es.length G))) W):=ae λW k=>⟨_,_,rfl,dB _ _ _ _ Y k,aW R k⟩
   have N:∀W,K w W->W.cell? ⟨b1,off+j*9,none⟩=some (.int .i64 t.e.kind):=N;have d:∀W,K w W->∀i,i<9->W.cell? ⟨b1,off+j*9+i,none⟩=(fW t (.slice E t.e.f.length F) (.slice D t.e.es.length G))[i]?:=λW k i hi=>(d W k i hi).trans Array.getElem?_toList
   have gA:(jj (l.take j)).length<=4:=by unfold jj;rw[od];omega
   clear hrl Q Y R;generalize jj (l.take j)=L at *;obtain⟨Ao,co,rfl,-⟩:=hO.slice;have Z:=ai.new wr 106 (fW t (.slice E t.e.f.length F) (.slice D t.e.es.length G));have U:K wr (wr.alloc (.cells (fW t (.slice E t.e.f.length F) (.slice D t.e.es.length G)) 106)):=(K.rf wr).al _;go_upto_region 5 with (fail);have B:=hO.st U;generalize wr.alloc _=w5 at *;generalize wr.heap.size=g5 at Z⊢;generalize Value.slice E t.e.f.length F=vf at *;generalize Value.slice D t.e.es.length G=ve at *;have k5:=kr.tr U;have q:=Z.cell;clear d N hO U;clear d N;have ll:=B.blk;rcases t with ⟨s,ta⟩;cases ta
   ·have HQ:Hid (jj (l.take (j+1))=L):=ae (by rw[C.aa];simp);have HO:=ae B;clear C B;exact ag7
   ·by_cases h4:L.length<4;rotate_left
    ·have Zu:¬(L.length:Int)<4:=af;have HQ:Hid (jj (l.take (j+1))=L):=ae (by rw[C.aa,if_neg (λh=>h4 h.2)]);have HO:=ae B;clear C B ll;exact ag7
    ·have Zu:(L.length:Int)<4:=af;have HQ:Hid (jj (l.take (j+1))=L++[s]):=ae (by rw[C.aa,if_pos ⟨rfl,h4⟩]);clear C;go_wp2_with fail
     refine (NX s _ w5 (HE.aa _ k5) hst).mono ?_;rintro e y⟨v6,rfl,ho,V⟩;have nO:=B.st V;obtain⟨kH,kI,rfl,X,S⟩:=ho;have nL:=k5.tr V;obtain⟨css,hown,Q,ln⟩:=nO;have wK:=V.size;have ou:=k5.size;have HF:Hid (∀w',aH w5.heap.size none y w'->eJ s.f kH w'/\ar dJ s.es kI w'):=ae λw' u=>⟨sU (X.up u),(S.up (aG _) u).ar⟩
     obtain⟨H,M,rfl⟩:=cB (sU X);obtain⟨O,I,rfl⟩:=az S.ar;have J:K y (y.alloc (.cells (aA s (.slice H s.f.length M) (.slice O s.es.length I)) 102)):=(K.rf y).al _;have hbase:w.heap.size<=(y.alloc (.cells (aA s (.slice H s.f.length M) (.slice O s.es.length I)) 102)).heap.size:=by have:=J.size;omega
     have Mn:(L.length+1)*97<=140737488355328:=af;clear B X S;go_wp2_with (at_builtin;refine iC rfl _ _ 39 rfl w.heap.size 102 _ 8 96 ay4 _ _ _ rfl (pg hown _) (y.heap.size+1) _ 1 1 (Qk s (.slice H s.f.length M) (.slice O s.es.length I)) rfl ?c1 ?c2 ?c3 hbase ?_)
     case c1=>exact Reads.new y (Qk s (.slice H s.f.length M) (.slice O s.es.length I)) 102 8 1 rfl
     case c2=>have h0:=HF.aa y (aH.rf _ _ _);exact aQ.one (x:=s) (w:=y) ⟨_,_,rfl,h0.1,h0.2⟩
     case c3=>omega
     intro v9 w9 eU bJ dc bo;have k9:=(nL.tr J).trans bo;have bG:Hid (aX w.heap.size w.heap.size 102 aQ (jj (l.take (j+1))) v9 w9):=by
      rw[HQ.aa];exact aX.snoc Q (λw' u=>ln w' (aH.tr (aH.bg J _ _) u)) eU bJ pO
       (λw' u=>by
        have:=HF.aa w' ((aH.tr (aH.bg J _ _) u).more af (λk hk _ e=>Vo));exact⟨_,_,rfl,this.1,this.2⟩)
     clear eU bJ dc bo hown ln;go_wp2;go_roundw
     case rel=>exact⟨j+1,af,bO,bG.aa,k9⟩
     case measure=>simp[intOf];omega
  ·exact ag0
theorem ab1{P:Program}{ρ:Operand->Value}{w:World}(s x:Operand)(T ty t:TypeId)(g o:Nat)(j cells:Array Value)(hs:ρ s=.pointer (some ⟨g,o,none⟩))(hx:ρ x=.agg cells)(hb:ai w g t j)
 (hi:(P.info? T).map (·.size)=some cells.size) (hl:o+cells.size<=j.size) (y:∀u∈cells.toList,u.oneCell'=true) :
 ∃w',(execOp ρ (ay (.store T s x) ty)).run P w=.ok .skip w'/\ai w' g t (j.toList.take o++cells.toList++j.toList.drop (o+cells.size)).toArray/\w.grownBy w' (some g):=by
 have hst:=run_storeCells_at P g o t cells.toList 0 j w hb Iy y
 simp only[Nat.add_zero,Array.length_toList]at hst
 refine⟨_,?_,setRow_heap w g j _ t _ hb,⟨rfl,rfl,rfl,aj,λk hk A=>setRow_other w g k _ (λe=>A Fb)⟩⟩
 cases hq:P.info? T with
 | none=>simp[hq]at hi
 | some i => exact VE
theorem atc(l:List bz)(a:av):vW l a=match ju l a with|none=>(wq,false)|some k=>match l[k]? with|some t=>(t,true)|none=>(wq,false):=by
 cases h:ju l a with
 | none=>exact aq7 (abT h)
 | some k =>
  obtain⟨t,i,s,y⟩:=J0 h;obtain⟨hk,u⟩:=List.getElem?_eq_some_iff.1 i;have:l.find? (nF a)=some t:=by
   rw[List.find?_eq_some_iff_getElem];exact⟨by simp[nF,s],k,hk,u,λj A=>by
    have:=y j A l[j] (List.getElem?_eq_getElem _);simp[nF,this]⟩
  unfold vW;rw[this];simp only[i]
abbrev Ez:Array Value:=#[.int .i64 0,.int .i64 0,.int .u64 0,.int .u64 0,.int .i64 0,.int .u64 0,.slice none 0 0,.slice none 0 0,.bool false]
theorem ap7(l:List bz)(a:av)(v:Value)(w:World)(h:ar cJ l v w)(hs:∀s∈l,eD s.e)(hlen:l.length<=1000000) :
 Calls prog 40 #[v,cN a] w λe w'=>∃u,e=.returned (.tuple #[u,.bool (vW l a).2])/\Mu (vW l a).1 u w'/\K w w':=by
 have C2:=ae λW (Y:K w W)=>Oc l a v W (aW h Y) hlen
 obtain⟨A,c,rfl,hl,j⟩:=h
 have hx:=(ai.new w 46 #[.int .i64 a.1,.int .u64 (a.2.1:Int),.int .u64 (a.2.2:Int)]).alloc (.cells Ez 106)
 have L:=ai.new (w.alloc (.cells #[.int .i64 a.1,.int .u64 (a.2.1:Int),.int .u64 (a.2.2:Int)] 46)) 106 Ez
 have k1:K w ((w.alloc (.cells #[.int .i64 a.1,.int .u64 (a.2.1:Int),.int .u64 (a.2.2:Int)] 46)).alloc (.cells Ez 106)):=((K.rf w).al _).al _
 have hz:(w.alloc (.cells #[.int .i64 a.1,.int .u64 (a.2.1:Int),.int .u64 (a.2.2:Int)] 46)).heap.size=w.heap.size+1:=aj
 rw[hz]at L
 clear hz
 have HI:Hid (ph l a=match ju l a with|some k=>(k:Int)|none=>-1):=ae rfl
 have HC:=ae (atc l a)
 have Z:=ae λk h=>@J0 l a k h
 generalize vW l a=R at *
 go_enter func40,ntmps40
 go_upto_region 1 with (fail)
 generalize World.alloc (World.alloc w _) _=w1 at *
 have q:=hx.cell
 go_wp2_with fail
 clear q
 refine (C2.aa w1 k1).mono ?_
 rintro e w2⟨rfl,k2⟩
 have bw:=k1.tr k2
 have J:=L.below k2 L.lt
 have hrg:w.heap.size<=w.heap.size+1:=af
 generalize w.heap.size+1=B at *
 generalize ph l a=I at *
 clear hx L C2
 cases ho:ju l a with
 | none => obtain rfl:I=-1:=yV;have HQ:Hid (R=(wq,false)):=ae K1;clear ho HI HC Z;have q:=J.cell;have z:=J.frozen;go_wp2;have dQ:=((((((((J.aR 0 (.int .i64 0)).aR 1 (.int .i64 0)).aR 2 (.int .u64 0)).aR 3 (.int .u64 0)).aR 4 (.int .i64 0)).aR 5 (.int .u64 0)).aR 6 (.slice none 0 0)).aR 7 (.slice none 0 0)).aR 8 (.bool false);have X:=dQ.cell;refine bodyPost_ret (v:=.tuple #[.agg Ez,.bool false]) (by simp[results,results40,go_sem,X]) rfl ?_;refine⟨.agg Ez,by rw[HQ.aa],by rw[HQ.aa];exact ag3 wq rfl rfl _,?_⟩;exact ((((((((bw.setCell Bg _).setCell Bg _).setCell Bg _).setCell Bg _).setCell Bg _).setCell Bg _).setCell Bg _).setCell Bg _).setCell Bg _
 | some k =>
  obtain rfl:I=(k:Int):=yV;obtain⟨t,h1,-⟩:=Z.aa k ho;have HQ:Hid (R=(t,true)):=ae V4;obtain⟨hk,Ai⟩:=List.getElem?_eq_some_iff.1 h1;have eF:(k:Int)<(l.length:Int):=af;obtain⟨y,D,cs,rfl,hcl,O,d0,d⟩:=dM hl k hk au;have hst:=hs _ (bW hk);rw[Ai]at O hst;obtain⟨vf,E,rfl,hf,he⟩:=O w (K.rf w);have HE:Hid (∀W,K w W->cR t.e (.agg (aA t.e vf E)) W):=ae λW k=>⟨_,_,rfl,dB _ _ _ _ hf k,aW he k⟩
  have d0:∀W,K w W->W.cell? ⟨y,D+k*9,none⟩=some (.int .i64 t.e.kind):=d0;have d:∀W,K w W->∀i,i<9->W.cell? ⟨y,D+k*9+i,none⟩=(fW t vf E)[i]?:=λW kk i hi=>(d W kk i hi).trans Array.getElem?_toList
  clear O hcl hf he ho HI HC Z h1 Ai;go_upto_region 4 with (fail);obtain⟨F,hgb⟩:∃F,F=w2.heap.size:=⟨_,rfl⟩;have hg4:B<F:=by rw[hgb];exact J.lt
  obtain⟨C,H⟩:∃C:World->Prop,C=λW=>K w W/\F<=W.heap.size:=⟨_,rfl⟩
  have hg:∀W G,C W->Below W.heap.size W G->C G:=by subst H;rintro W G⟨h1,N⟩ hb;exact⟨h1.tr hb,bq N hb.size⟩
  have hc0:C w2:=by rw[H];exact⟨bw,by omega⟩
  have U:∀b,some B=some b->b<F:=by rintro b e;cases e;exact hg4
  refine S5 12 C (λW=>ai W B 106 Ez) (λW=>∃vf E,ai W B 106 (fW t vf E)/\eJ t.e.f vf W/\ar dJ t.e.es E W) (λW G=>W.grownBy G (some B)) [ag (.slice (some ⟨y,D,none⟩) l.length c),
   ag (.int .i64 k),
   ag (.pointer (some ⟨y,D+k*9,none⟩)),
   ag (.pointer (some ⟨y,D+k*9,none⟩)),
   ag (.agg (aA t.e vf E)),
   D7 F t.e,
   ag (.slice (some ⟨y,D,none⟩) l.length c),
   ag (.int .i64 k),
   ag (.pointer (some ⟨y,D+k*9,none⟩)),
   ag (.pointer (some ⟨y,D+k*9+8,none⟩)),
   ag (.bool t.asked),
   Gv F t,
   xK,
   ag (.bool true)]
   [([],[]),([],[]),([0,1],[(13,0),(14,1)]),([2],[(15,2)]),([3],[(16,3)]),([4],[(17,4)]),([],[]),([],[]),([6,7],[(19,6),(20,7)]),([8],[(21,8)]),([9],[(22,9)]),([5,10],[(18,5),(23,10)]),([11],[(24,11)]),([],[])] 25 rfl ak ak ak au hg (λW G h k=>h.below k h.lt) (λW G h k=>by obtain⟨vf,E,h1,h2,h3⟩:=h;exact⟨vf,E,h1.below k h1.lt,dB _ _ _ _ h2 k,aW h3 k⟩) tS J.drew ?st ?st2 ?ow ?_
  case st =>
   simp only[aI]
   and_intros
   all_goals first|exact jN _|exact mz|exact VY _ _|exact Xy _ _|simp
  case st2 =>
   simp only[List.zipIdx_cons,List.zipIdx_nil,aI,fP,Nat.reduceAdd]
   and_intros
   all_goals first|exact .inl rfl|exact .inr (λ_ _ _ h _=>h)|exact .inr (Ux U)|exact .inr (VZ U)|simp
  case ow =>
   simp only[nZ]
   and_intros
   all_goals try trivial
   all_goals
    simp only[Nat.reduceEqDiff,if_false,Nat.reduceAdd]
   all_goals
    first
    | (intro V w' j hD hp
       have Gw:ai w' B 106 Ez:=hD
       simp only[aI,aE,aF]at hp
       rw[H]at j
       obtain⟨kw,eC⟩:=j)
    | (intro V w' j hp
       rw[H]at j
       obtain⟨kw,eC⟩:=j
       have q0:=d0 w' kw
       have q:=d w' kw
       try simp only[aI,aE,aF,ag]at hp
       try simp[aL,aw,List.lookup,hp,aE,aF,aS,execOp,ay,ag,undef,aN,q,q0,eF,go_sem])
    | skip
   ·exact agY
   ·exact V0
   ·obtain⟨⟨Cs,Ct,e3,hF⟩,-⟩:=hp;have N:=hF w' (aH.rf _ _ _);generalize hA:aw [(24,11)] _ V=S;have zP:S (.tmp 4)=.pointer (some ⟨B,0,none⟩):=Fc;have sF:S (.tmp 24)=.agg (fW t Cs Ct):=by rw[<- hA];exact e3
    obtain⟨w'',hrun,hb2,M⟩:=ab1 (P:=prog) (ρ:=S) (.tmp 4) (.tmp 24) 106 0 106 B 0 Ez (fW t Cs Ct) zP sF Gw (by have:=Xz;cases hq:prog.info? 106 with
     | none=>rw[hq]at this;cases this
     | some i=>rw[hq]at this;simp at this;simp[this.2.1]) aj (cJ.one (x:=t) (w:=w') ⟨Cs,Ct,rfl,N.1,N.2⟩)
    rw[hrun];have h9:=hF w'' (aH.row M U);refine⟨trivial,?_,⟨Cs,Ct,hb2,h9.1,h9.2⟩,M⟩;rw[H];exact⟨(aH.fM M 0).k kw (by rintro b e;cases e;exact hrg),bq eC M.size⟩
  intro V W j Jv hp;have h13:=hp 13 aj;simp only[aE,aF,ag]at h13;rw[H]at j;have Y:=j.1;obtain⟨Q,T,bo,FZ,Cu⟩:=Jv;have HW:Hid (Mu t (.agg (fW t Q T)) W):=ae ⟨Q,T,rfl,FZ,Cu⟩;have X:=bo.cell;clear hp j hg hc0 H FZ Cu;simp only[bF,Act.put,cO,cM,cL];go_wp2;refine bodyPost_ret (v:=.tuple #[.agg (fW t Q T),.bool true]) (by simp[results,results40,go_sem,X,h13]) rfl ?_;exact⟨_,by rw[HQ.aa],Fh,Y⟩
def MY(g:Nat)(e:List bh)(v:Value)(W:World):Prop:=∀h,aH g none W h->ik e v h
def MZ(g:Nat)(T:TypeId)(e:List bh)(v:Value)(W:World):Prop:=∃h u,v=.slice (some ⟨h,0,none⟩) 1 1/\g<=h/\ai W h T #[u]/\∀i,aH g none W i->ik e u i
theorem axi(g:Nat)(e:List bh):∀v w w',MY g e v w->Below w.heap.size w w'->MY g e v w':=by rintro v w w' h k;exact λi u=>h i ((aH.bg k _ _).tr u)
theorem awb{g:Nat}{e:List bh}{row:Option Nat}(i:∀b,row=some b->b<g):∀v w w',MY g e v w->w.grownBy w' row->MY g e v w':=by rintro v w w' h k;exact λj u=>h j ((aH.row k i).tr u)
theorem axj(g:Nat)(T:TypeId)(e:List bh):∀v w w',MZ g T e v w->Below w.heap.size w w'->MZ g T e v w':=by rintro v w w'⟨i,u,s,hg,hb,h⟩ k;exact⟨i,u,s,hg,hb.below k hb.lt,λj u=>h j ((aH.bg k _ _).tr u)⟩
theorem awc{g:Nat}{T:TypeId}{e:List bh}{row:Option Nat}(hr:∀b,row=some b->b<g):∀v w w',MZ g T e v w->w.grownBy w' row->MZ g T e v w':=by rintro v w w'⟨g',u,j,hg,hb,h⟩ k;exact⟨g',u,j,hg,hb.grown k (λe=>Vs),λi u=>h i ((aH.row k hr).tr u)⟩
def Zv(g B:Nat)(T:TypeId)(n:Nat)(xs:List Value)(e:List bh)(v:Value)(W:World):Prop:=∃u,W.ownsRow B T 1 v (n+1) (xs++[u])/\∀h,aH g none W h->ik e u h
theorem axk(g B:Nat)(T:TypeId)(n:Nat)(xs:List Value)(e:List bh):∀v w w',Zv g B T n xs e v w->Below w.heap.size w w'->Zv g B T n xs e v w':=by rintro v w w'⟨u,i,h⟩ k;exact⟨u,fZ i k,λj u=>h j ((aH.bg k _ _).tr u)⟩
