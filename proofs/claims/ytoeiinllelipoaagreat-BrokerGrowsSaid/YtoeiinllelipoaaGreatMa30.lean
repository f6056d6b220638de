/-
  The walk of wire.readEntry (layer 13). Conditions: at most a milliard bytes.
-/
import Derived.Test.YtoeiinllelipoaaGreatMa11
import Derived.Deep.CutBlock
import Derived.Test.YtoeiinllelipoaaGreatMz
set_option maxRecDepth 100000
set_option maxHeartbeats 16000000
set_option linter.unusedVariables false
set_option linter.unusedSimpArgs false
namespace Go.Proofs.YtoeiinllelipoaaGreat
open Go Go.RowKit Tryz
theorem Ug{W h:World}{b:Nat}{T:TypeId}{C:Nat}{A:Option Addr}{n:Nat}{xs:List Value}(t:Reads W W.heap.size C A n xs)(hb:ai W b T ez)(F:xs=[]∨∃u∈xs,u∉ez.toList)
 (H:W.heap.size<=h.heap.size) (hk:∀k,k<W.heap.size->k≠b->h.heap[k]?=W.heap[k]?):Reads h h.heap.size C A n xs:=by
 refine⟨t.1,λs=>?_⟩
 obtain⟨g,B,e,hg,D⟩:=t.2 s
 have E:g≠b:=by
  rintro rfl;rcases F with rfl|⟨u,G,hn⟩
  ·simp at s
  ·obtain⟨j,i⟩:=List.mem_iff_getElem?.1 G;have y:=D j u i;rw[hb.cell]at y;exact hn (by rw[Array.mem_toList_iff];exact Array.mem_of_getElem? y)
 refine⟨g,B,e,bB hg H,λj u i=>?_⟩
 rw[World.cell?_of_block (w:=W) (w':=h) (a:=⟨g,B+j,none⟩) (hk g hg E)]
 exact D j u i
theorem awx(l:List bh):l.flatMap jQ=[]∨∃u∈l.flatMap jQ,u∉ez.toList:=by exact aiY
theorem awy(l:List bc):l.flatMap dY=[]∨∃u∈l.flatMap dY,u∉ez.toList:=by exact aiY
theorem awz{W u:World}{b:Nat}{T:TypeId}{x:aq}{v:Value}(h:cR x v W)(G:∀e∈x.es,e≠[])(hb:ai W b T ez)
 (B:W.heap.size<=u.heap.size) (hk:∀k,k<W.heap.size->k≠b->u.heap[k]?=W.heap[k]?):cR x v u:=by
 obtain⟨vf,N,rfl,⟨A,c,rfl,M⟩,D,d,rfl,⟨css,j,L⟩,I⟩:=h
 refine⟨_,_,rfl,⟨A,c,rfl,Ug M hb (awy _) B hk⟩,D,d,rfl,⟨css,⟨j.1,λi H F=>?_⟩,Ug L hb ?_ B hk⟩,I⟩
 ·obtain⟨v,e,s,c1,rfl,E⟩:=j.2 i H F;exact⟨_,e,s,c1,rfl,Ug E hb (awx _) B hk⟩
 ·cases hes:x.es with
  | nil => refine .inl (List.eq_nil_of_length_eq_zero ?_);rw[j.DX,hes];rfl
  | cons O es =>
   have t:0<x.es.length:=by rw[hes];simp
   have C:0<css.length:=by rw[j.1];exact t
   obtain⟨v,e,s,c1,rfl,E⟩:=j.2 0 t C;refine .inr ⟨.slice s x.es[0].length c1,List.mem_flatten.2 ⟨css[0],bW C,by rw[e];simp⟩,?_⟩;have J:x.es[0].length≠0:=by intro y;exact G _ (bW t) (List.eq_nil_of_length_eq_zero y)
   intro hm;have y:Value.slice s x.es[0].length c1=.slice none 0 0:=by simpa using hm
   injection y with _ e8 _;exact J e8
theorem atP(b:List UInt8):∀e∈(pP b).es,e≠[]:=by
 unfold pP
 cases hd:kN b with
 | none=>simp[eW]
 | some x =>
  intro e h;obtain⟨-,-,hk⟩:=Dg (abO hd).2;rcases hk with hk|hk|hk
  ·have:=hk.2.2.2.2 e h;rintro rfl;simp[fK]at this
  ·simp only[Option.getD_some]at h;rw[hk.2.2]at h;cases h
  ·simp only[Option.getD_some]at h;rw[hk.2.1]at h;cases h
def xW(i:Nat)(x:aq)(u:Value)(W:World):Prop:=∀h,ah (λk=>k<i) W h->cR x u h
theorem aiZ(i:Nat)(x:aq):∀v w w',xW i x v w->Below w.heap.size w w'->xW i x v w':=by rintro v w w' h k;exact λj u=>h j ((ah.bg k _).tr u)
def QN(h:Nat)(x:aq)(c:Int)(v:Value)(W:World):Prop:=∃u,v=.tuple #[u,.int .i64 c]/\xW h x u W
theorem awA(i:Nat)(x:aq)(c:Int):∀v w w',QN i x c v w->Below w.heap.size w w'->QN i x c v w':=by rintro v w w'⟨u,e,h⟩ k;exact⟨u,e,aiZ _ _ _ _ _ h k⟩
def Ma(h:Nat)(T:TypeId)(v:Value)(W:World):Prop:=∃b,v=.pointer (some ⟨b,0,none⟩)/\h<=b/\ai W b T ez
theorem awB(i:Nat)(T:TypeId):∀v w w',Ma i T v w->Below w.heap.size w w'->Ma i T v w':=by exact afB
theorem avi{i g:Nat}{T:TypeId}(hg:g<i):∀v w w',Ma i T v w->w.grownBy w' (some g)->Ma i T v w':=by rintro v w w'⟨b,e,s,j⟩ k;exact⟨b,e,s,j.grown k aU⟩
theorem adM{y:Nat}{x:aq}{u:Value}{w w':World}{b:Nat}{T:TypeId}(h:xW y x u w)(F:∀e∈x.es,e≠[])(hb:ai w b T ez)(hg:w.grownBy w' (some b)):xW y x u w':=by
 intro t up;obtain⟨i,j⟩:∃i:World,i={ t with heap:=t.heap.setIfInBounds b (.cells ez T (0,0)) }:=⟨_,rfl⟩;have E:b<t.heap.size:=bB hb.lt (bq hg.size up.size);have C:ai i b T ez:=by rw[j];unfold ai;simp[E]
 have B:∀k,k≠b->i.heap[k]?=t.heap[k]?:=by intro k hk;rw[j];simp only[Array.getElem?_setIfInBounds];rw[if_neg (Ne.symm hk)]
 have A:i.heap.size=t.heap.size:=by rw[j];simp
 have G:ah (λk=>k<y) w i:=by
  refine⟨?_,?_,?_,by rw[A];exact bq hg.size up.size,λk hk D=>?_⟩
  ·rw[j];exact up.os.trans hg.os
  ·rw[j];exact up.tape.trans hg.tape
  ·rw[j];exact up.output.trans hg.output
  ·by_cases s:k=b
   ·subst s;exact C.trans hb.symm
   ·rw[B k s,up.block k (bB hk hg.size) D];exact hg.block k hk (by simp;exact s)
 exact awz (h i G) F C (by rw[A];exact aG _) (λk _ s=>(B k s).symm)
theorem aqG{P:Program}{ρ:Operand->Value}{w:World}(s x:Operand)(T ty t:TypeId)(g o:Nat)(j cells:Array Value)(hs:ρ s=.pointer (some ⟨g,o,none⟩))(hx:ρ x=.agg cells)(hb:ai w g t j)
 (hi:(P.info? T).map (·.size)=some cells.size) (hl:o+cells.size<=j.size) (y:∀u∈cells.toList,u.oneCell'=true) :
 ∃w',(execOp ρ (ay (.store T s x) ty)).run P w=.ok .skip w'/\ai w' g t (j.toList.take o++cells.toList++j.toList.drop (o+cells.size)).toArray/\w.grownBy w' (some g):=by
 have hst:=run_storeCells_at P g o t cells.toList 0 j w hb Iy y
 simp only[Nat.add_zero,Array.length_toList]at hst
 refine⟨_,?_,setRow_heap w g j _ t _ hb,⟨rfl,rfl,rfl,aj,λk hk A=>setRow_other w g k _ (λe=>A Fb)⟩⟩
 cases hq:P.info? T with
 | none=>simp[hq]at hi
 | some i => exact VE
theorem an9(j g:Nat)(n:Int)(l:List UInt8)(wr s:Bool)(w:World)(h:RW j g n l wr s w)(hl:l.length<=1000000000)(hn0:0<=n)(dK:n<=1000000000) :
 Calls prog 107 #[.pointer (some ⟨j,0,none⟩)] w λe w' =>
  ∃v,e=.returned v/\xW w.heap.size (iT n l wr s).1 v w'/\RW j g n (iT n l wr s).2.1 (iT n l wr s).2.2.1 (iT n l wr s).2.2.2 w'/\ah (XW j g) w w':=by
 have C1:=λW (hW:Rd W g l wr)=>TW g l wr n W hW hl af af
 have ZO:=Oz n l wr
 unfold iT
 generalize aP n l wr=a at *
 obtain⟨bs,l1,eG⟩:=a
 simp only at C1 ZO⊢
 have hne:=atP bs
 have C2:=λW v (hv:sl bs v W)=>aoC bs v W hv af
 obtain⟨t,FA⟩:∃t,t=xA bs:=⟨_,rfl⟩
 obtain⟨x,R⟩:∃x,x=pP bs:=⟨_,rfl⟩
 have HC:Hid (t=0/\(s||(kN bs).isNone)=s∨t=110/\(s||(kN bs).isNone)=true):=ae (by
  rw[FA];unfold xA;cases kN bs <;> simp)
 simp only[<- FA,<- R]at C2 hne⊢
 clear FA R
 generalize (s||(kN bs).isNone)=bd9 at *
 have C1:=ae C1
 have C2:=ae C2
 have HN:=ae hne
 clear hne
 have dm:=ai.new w 102 ez
 have h0:=h.st ((K.rf w).al (.cells ez 102))
 have u0:=ah.al (XW j g) w (.cells ez 102)
 have eC:=h.lt
 have hgg:=h.2.2
 clear h
 go_enter func107,ntmps107
 go_upto_region 1 with (fail)
 generalize w.alloc _=w1 at *
 obtain⟨H,hgb⟩:∃H,H=w1.heap.size:=⟨_,rfl⟩
 have Mo:w.heap.size<H:=by rw[hgb];exact dm.lt
 obtain⟨C,S⟩:∃C:World->Prop,C=λW=>ah (XW j g) w W/\H<=W.heap.size/\ai W w.heap.size 102 ez/\ai W j 174 #[.pointer (some ⟨g,0,none⟩),.int .i64 n,.bool s]:=⟨_,rfl⟩
 have hg:∀W A,C W->Below W.heap.size W A->C A:=by subst S;rintro W A⟨E,h2,Y,h4⟩ hb;exact⟨E.tr (ah.bg hb _),bq h2 hb.size,Y.below hb Y.lt,h4.below hb h4.lt⟩
 have hc0:C w1:=by rw[S];exact⟨u0,by omega,dm,h0.1⟩
 obtain⟨F,hF⟩:∃F:(Nat->Bool)->(Nat->Value)->World->Prop,F=λL V W=>C W/\RW j g n l1 eG s W/\(∃u,V 10=.tuple #[u,.int .i64 t])/\(L 12=true->V 12=.int .i64 t)/\(L 15=true->V 15=.int .i64 t) /\
  ∃b vf Q,V 13=.pointer (some ⟨b,0,none⟩)/\H<=b/\ai W b 102 (aA x vf Q)/\xW H x (.agg (aA x vf Q)) W:=⟨_,rfl⟩
 refine aaO 8 14 [0,1,2,3,4,5,6,7,8,9,10,11,13] [15] C (λW=>RW j g n l wr s W) (λW=>RW j g n l1 eG s W) (λW A=>W.grownBy A (some g)) F [ag (.pointer (some ⟨j,0,none⟩)),
  ag (.pointer (some ⟨j,0,none⟩)),
  ag (.pointer (some ⟨j,0,none⟩)),
  ag (.pointer (some ⟨g,0,none⟩)),
  ag (.pointer (some ⟨j,0,none⟩)),
  ag (.pointer (some ⟨j,0,none⟩)),
  ag (.pointer (some ⟨j,1,none⟩)),
  ag (.int .i64 n),
  sl bs,
  QN H x t,
  QN H x t,
  xW H x,
  ag (.int .i64 t),
  Ma H 102,
  xK,
  ag (.int .i64 t)]
  [([],[]),([0],[(6,0)]),([1],[(7,1)]),([2],[(8,2)]),([],[]),([4],[(10,4)]),([5],[(11,5)]),([6],[(12,6)]),([3,7],[(9,3),(13,7)]),([8],[(14,8)]),([9],[(15,9)]),([10],[(5,10)]),([10],[(5,10)]),([],[]),([10,13,11],[(3,13),(16,11)]),([12,14],[(17,12)])] 24 rfl ak ak ak au au au ak ak hg (λW A h k=>h.st k) (λW A h k=>h.st k) tS (h0.st (Below.drew (aN _ _))) ?st ?st2 ?ow ?_
 case st =>
  simp only[aI]
  and_intros
  all_goals first|exact jN _|exact mz|exact iQ _|exact awA _ _ _|exact aiZ _ _|exact awB _ _|simp
 case st2 =>
  simp only[List.zipIdx_cons,List.zipIdx_nil,aI,fP,Nat.reduceAdd]
  and_intros
  all_goals first|exact .inl rfl|exact .inr (λ_ _ _ h _=>h)|exact .inr (avi af)|simp
 case ow =>
  simp only[Fv,nZ,List.contains_cons,List.contains_nil,Nat.reduceBEq,Bool.or_false,Bool.or_true,Bool.false_eq_true,if_true,if_false,Nat.reduceEqDiff,Nat.reduceAdd,and_true,true_and]
  and_intros
  all_goals try trivial
  all_goals
   first
   | (intro V w' D B
      rw[S]at D
      obtain⟨J,I7,M,dI⟩:=D
      have q:=dI.cell
      try simp only[aI,aE,aF,ag]at B
      try (simp[aL,aw,List.lookup,B,aE,aF,aS,execOp,ay,ag,undef,aN,q,go_sem];done))
   | skip
  ·have hD:RW j g n l wr s w':=B;intro hp2;simp only[aI,aE,aF,ag]at hp2;simp[aw,List.lookup,hp2,aE,aF,Qi,execOp,ay,go_sem];refine (C1.aa w' hD.2.1).mono ?_;rintro e w2⟨v,rfl,rr,hw⟩;refine⟨v,rfl,rr,?_,hD.went hw,hw.2⟩;rw[S];exact⟨J.tr (ah.went hw (.inl rfl)),bq I7 hw.2.size,M.went hw af,dI.went hw af⟩
  ·simp[aL,aw,List.lookup,aE,aF,aS,execOp,ay,go_sem];refine (C2.aa w' (V 8) B.1).mono ?_;rintro e w2⟨v,rfl,T,k⟩;exact⟨_,rfl,⟨v,rfl,λA u=>T A (u.iK (λk E _ _ R=>af))⟩,k⟩
  ·obtain⟨⟨u,e9,E⟩,-⟩:=B;simp[e9,aL,aw,List.lookup,aE,aF,aS,execOp,ay,go_sem];exact⟨E,aN _ _⟩
  ·intro L V w' ni hal ND;rw[hF]at ND⊢;obtain⟨D,I,⟨u,e9⟩,-,G4,hrest⟩:=ND;generalize Z:aw [(5,10)] _ V=N;have e5:N (.tmp 5)=.tuple #[u,.int .i64 t]:=by rw[<- Z];exact e9
   have hrun:(execOp N (ay (.extract (.tmp 5) 1) 26)).run prog w'=.ok (.value (.int .i64 t)) w':=by simp[e5,execOp,ay,go_sem]
   rw[hrun];refine⟨D,I,⟨u,by simp[bj,e9]⟩,λ_=>by simp[bj],λh=>?_,?_⟩
   ·have:=G4 Xb;simpa [bj]using this
   ·simpa [bj]using hrest
  ·obtain⟨⟨u,e9,E⟩,-⟩:=B;simp[e9,aL,aw,List.lookup,aE,aF,aS,execOp,ay,ag,aN,go_sem]
  ·simp[aL,aE,aF,aS,execOp,ay,go_sem];exact⟨⟨w'.heap.size,rfl,I7,ai.new _ _ _⟩,(K.rf w').al _⟩
  ·intro L V w' hal D I B;have hd':RW j g n l1 eG s w':=I;have f10:=B 10 (hal 10 aj);have f11:=B 11 (hal 11 aj);have f13:=B 13 (hal 13 aj);have f12:=B 12;have f15:=B 15;simp only[aE,aF,ag]at f10 f11 f13 f12 f15;obtain⟨u10,gX,-⟩:=f10;obtain⟨b,Cr,lM,hblk⟩:=f13;obtain⟨vf,Q,rN,hf,T⟩:=f11 w' (ah.rf _ _);rw[rN]at f11;generalize Z:aw [(3,13),(16,11)] _ V=N;have zP:N (.tmp 3)=.pointer (some ⟨b,0,none⟩):=by rw[<- Z];exact Cr
   have sF:N (.tmp 16)=.agg (aA x vf Q):=by rw[<- Z];exact rN
   obtain⟨w'',hrun,hb2,y⟩:=aqG (P:=prog) (ρ:=N) (.tmp 3) (.tmp 16) 102 0 102 b 0 ez (aA x vf Q) zP sF hblk ak aj (aQ.one (x:=x) (w:=w') ⟨vf,Q,rfl,hf,T⟩);rw[hrun];rw[S]at D;obtain⟨J,I7,M,dI⟩:=D;have O:Below H w' w'':=⟨y.os,y.tape,y.output,y.size,λi hi=>y.block i (bB hi I7) adQ⟩;show F _ _ w'';rw[hF];refine⟨?_,⟨hd'.1.below O af,hd'.2.1.below O af,hd'.2.2⟩,⟨u10,by simp[bj,gX]⟩,λh=>?_,λh=>?_,b,vf,Q,by simp[bj,Cr],lM,hb2,adM f11 HN.aa hblk y⟩
   ·rw[S];exact⟨⟨y.os.trans J.os,y.tape.trans J.tape,y.output.trans J.output,bq J.size y.size,λk hk R=>(O.block k af).trans (J.block k hk R)⟩,bq I7 y.size,M.below O af,dI.below O af⟩
   ·have:=f12 Xb;simpa [bj]using this
   ·have:=f15 Xb;simpa [bj]using this
  ·intro L V w' ni hal ND;rw[hF]at ND⊢;obtain⟨D,I,T,h12,-,hrest⟩:=ND;have Gy:=h12 (hal 12 aj);generalize Z:aw [(17,12)] _ V=N;have e5:N (.tmp 17)=.int .i64 t:=by rw[<- Z];exact Gy
   have hrun:(execOp N (ay (.assign (.tmp 17)) 26)).run prog w'=.ok (.value (.int .i64 t)) w':=by simp[e5,execOp,ay,go_sem]
   rw[hrun];refine⟨D,I,by simpa [bj]using T,λ_=>by simp[bj,Gy],λ_=>by simp[bj],by simpa [bj]using hrest⟩
 intro V W mJ
 rw[hF]at mJ
 obtain⟨D,I,-,-,G4,b,vf,Q,Cr,lM,hblk,Ee⟩:=mJ
 have Gz:=G4 au
 rw[S]at D
 obtain⟨J,I7,M,-⟩:=D
 obtain⟨iO,Ce,e9,hf,T⟩:=Ee W (ah.rf _ _)
 obtain⟨rfl,rfl⟩:vf=iO/\Q=Ce:=by simp only[Value.agg.injEq,Array.mk.injEq,List.cons.injEq,and_true,true_and]at e9;exact e9
 obtain⟨A9,c9,rfl⟩:=cB hf
 obtain⟨D9,d9,rfl⟩:=az T
 have oy:=ae Ee
 clear hF S hg hc0 Ee hf T e9 G4 h0 u0 dm C1 C2
 simp only[bF,Act.put,cO,cM,cL,Cr,Gz]
 have aDv:w.heap.size<b:=af
 have fin:∀(G:World) (eZ:Bool),ah (XW j g) w G->ai G w.heap.size 102 ez->RW j g n l1 eG eZ G->xW w.heap.size x (.agg (aA x (.slice A9 x.f.length c9) (.slice D9 x.es.length d9))) G ->
  ∃U,U=fN G w.heap.size 0 (aA x (.slice A9 x.f.length c9) (.slice D9 x.es.length d9)).toList/\ai U w.heap.size 102 (aA x (.slice A9 x.f.length c9) (.slice D9 x.es.length d9))/\xW w.heap.size x (.agg (aA x (.slice A9 x.f.length c9) (.slice D9 x.es.length d9))) U/\RW j g n l1 eG eZ U/\ah (XW j g) w U:=by
  intro G eZ E h2 Y h4
  have us:=ah.sets (X:=λk=>k=w.heap.size) (g:=w.heap.size) rfl (aA x (.slice A9 x.f.length c9) (.slice D9 x.es.length d9)).toList 0 G
  have dQ:=(((((((h2.aR 0 (.int .i64 x.kind)).aR 1 (.int .i64 x.br)).aR 2 (.int .u64 (x.life:Int))).aR 3 (.int .u64 (x.cI:Int))).aR 4 (.int .i64 x.cl)).aR 5 (.int .u64 (x.sub:Int))).aR 6 (.slice A9 x.f.length c9)).aR 7 (.slice D9 x.es.length d9)
  have y:G.grownBy (fN G w.heap.size 0 (aA x (.slice A9 x.f.length c9) (.slice D9 x.es.length d9)).toList) (some w.heap.size):=⟨us.os,us.tape,us.output,us.size,λk hk hne=>us.block k hk Vz⟩
  have O:Below w.heap.size G (fN G w.heap.size 0 (aA x (.slice A9 x.f.length c9) (.slice D9 x.es.length d9)).toList):=⟨us.os,us.tape,us.output,us.size,λk hk=>us.block k (Nat.lt_trans hk h2.lt) af⟩
  exact⟨_,rfl,dQ,adM h4 HN.aa h2 y,⟨Y.1.below O eC,Y.2.1.below O af,Y.2.2⟩,⟨us.os.trans E.os,us.tape.trans E.tape,us.output.trans E.output,bq E.size us.size,λk hk R=>(O.block k hk).trans (E.block k hk R)⟩⟩
 have ak6:=ae fin
 have aj3:xW w.heap.size x (.agg (aA x (.slice A9 x.f.length c9) (.slice D9 x.es.length d9))) W:=λA up=>oy.aa A ⟨up.os,up.tape,up.output,up.size,λk hk R=>up.block k hk af⟩
 clear fin oy
 rcases HC.aa with ⟨rfl,rfl⟩|⟨rfl,rfl⟩
 ·have q:=hblk.cell;have y1:=M.cell;have z1:=M.frozen;obtain⟨U,GI,bo,Cu,tA,EG⟩:=ak6.aa W bd9 J M I aj3;exact ai0
 ·have q:=hblk.cell;have y1:=M.cell;have z1:=M.frozen;have q2:=I.1.cell;have z2:=I.1.frozen;have ub:=ah.b6 (W:=W) (X:=λk=>k<w.heap.size) (b:=j) eC 2 (.bool true);obtain⟨U,GI,bo,Cu,tA,EG⟩:=ak6.aa (W.setCell ⟨j,2,none⟩ (.bool true)) true (J.tr (ah.b6 (X:=XW j g) (.inr rfl) 2 _)) (M.far (p:=⟨j,2,none⟩) aU _) I.bad (λA up=>aj3 A (ub.tr up));exact ai0
theorem axu:(prog.info? 117).map (λi=>(i.zero,i.size,i.bytes))=some (some (.agg #[.int .i64 0,.int .u64 0,.int .u64 0,.bool false]),4,32):=by kernel_rfl
theorem ayc:gJ prog 38 117 (.agg #[.int .i64 0,.int .u64 0,.int .u64 0,.bool false]) 4 32:=⟨underlying38,axu,rfl,au⟩
theorem awC:(prog.info? 46).map (λi=>(i.zero,i.size,i.bytes))=some (some (.agg #[.int .i64 0,.int .u64 0,.int .u64 0]),3,24):=by kernel_rfl
theorem TID:gJ prog 32 46 (.agg #[.int .i64 0,.int .u64 0,.int .u64 0]) 3 24:=⟨underlying32,awC,rfl,au⟩
theorem avj:(prog.info? 102).map (λi=>(i.zero,i.size,i.bytes))=some (some (.agg ez),8,96):=by kernel_rfl
theorem axv:gJ prog 39 102 (.agg ez) 8 96:=⟨underlying39,avj,rfl,au⟩
def nI{α:Type}(S:cF α)(i:Nat)(l:List α)(v:Value)(W:World):Prop:=∀h,ah (λk=>k<i) W h->ar S l v h
theorem aog(s g:Nat)(n:Int)(l:List UInt8)(y t:Bool)(w:World)(h:RW s g n l y t w)(_:l.length<=1000000000)(_:0<=n)(_:n<=1000000000) :
 Calls prog 104 #[.pointer (some ⟨s,0,none⟩),.func (Fn.func 105) #[] #[]] w λe w' =>
  ∃v,e=.returned v/\nI jW w.heap.size (gm mZ l y t).1 v w'/\RW s g n (gm mZ l y t).2.1 (gm mZ l y t).2.2.1 (gm mZ l y t).2.2.2 w'/\ah (XW s g) w w':=by
 have H:=Hw s g n l y t 17 w h af
 have V:=yR 17 af l y t
 have S:=(yM 17 af).len l y t
 unfold gm
 generalize lH 17 l y t=a at *
 obtain⟨M,B,C,A⟩:=a
 simp only at H V S⊢
 rw[show ((17:Nat):Int)=17 from rfl]at H
 have H:=ae H
 have eC:=h.lt
 have hgg:=h.2.2
 have HQ:=ae (λk=>Kh TJ k B C A)
 clear h
 have N:Hid (fO mZ M B C A=fO mZ M B C A):=ae rfl
 generalize O:fO mZ M B C A=R at N⊢
 have eB:=ae O
 clear O N
 go_enter func104,ntmps104
 go_wp2_with fail
 refine H.aa.mono ?_
 rintro e w1⟨rfl,I,Q⟩
 go_wp2_with fail
 go_loopw [5,8] (fun o i W=>∃j:Nat,j<=M/\i=.int .u64 (j:Int)/\∃es D F E,Hid (fO mZ j B C A=(es,D,F,E))/\RW s g n D F E W/\Hid (aX w.heap.size w.heap.size 117 jW es o W)/\ah (XW s g) w W) (fun _ i _=>M-(intOf i).toNat)
 case atStart=>exact⟨0,af,rfl,[],B,C,A,ae rfl,I,ae (aX.nil _ _ _ _ _),Q⟩
 case round =>
  clear I Q;obtain⟨j,hj,rfl,es,D,F,E,HJ,Cm,HO,uj⟩:=hrel;have L:=HQ.aa j;rw[HJ.aa]at L;simp only at L;obtain⟨ot,sE⟩:=L;have aj4:es.length<=17:=af;clear sE;have hzj:=uj.size;by_cases jl:j<M
  ·have ba:(j:Int)<(M:Int):=af;have zJ:Hid (fO mZ (j+1) B C A=(es++[(mZ D F E).1],(mZ D F E).2)):=ae Xc;go_wp2_with fail
   refine (aoa s g n D F E wr Cm).mono ?_;rintro e G⟨rfl,FT,u4⟩;generalize Z:mZ D F E=X at *;obtain⟨x,lk,Db,Dc⟩:=X;simp only at FT;have Mp:Hid (fO mZ (j+1) B C A=(es++[x],lk,Db,Dc)):=ae Xd;have cE:=HO.aa.up (aG _) (u4.iK (lo:=w.heap.size) (row:=none) (λk I _ _ hx=>Xe));have iX:=u4.size;obtain⟨css,hown,U,ln⟩:=cE;have kA:K G (G.alloc (.cells (fk x) 117)):=(K.rf G).al _;have T:w.heap.size<=(G.alloc (.cells (fk x) 117)).heap.size:=K5;clear HO HJ zJ Z;go_wp2_with (at_builtin;refine iC rfl _ _ 38 rfl w.heap.size 117 _ 4 32 ayc _ _ _ rfl (pg hown _) (G.heap.size+1) _ 1 1 (fk x).toList rfl ?c1 ?c2 ?c3 T ?_)
   case c1=>exact Reads.new G (fk x).toList 117 4 1 rfl
   case c2=>and_intros <;> rfl
   case c3=>omega
   intro Y J eU bJ dc bo;have oT:Below w.heap.size (G.alloc (.cells (fk x) 117)) J:=bo;have YD:RW s g n lk Db Dc J:=by exact Xf
   have u9:ah (XW s g) w J:=by exact Xg
   have zX:Hid (aX w.heap.size w.heap.size 117 jW (es++[x]) Y J):=ae (aX.snoc (cs:=(fk x).toList) U (λw' u=>ln w' (aH.tr (aH.bg kA _ _) u)) eU bJ pO (λw' u=>rfl));exact Xh
  ·have ba:¬(j:Int)<(M:Int):=af;obtain rfl:j=M:=af;have hR:=HJ.aa.symm.trans eB.aa;obtain rfl:=hR;have HL:Hid (nI jW w.heap.size es u5 wr):=ae λW' u=>(HO.aa.up (aG _) (u.iK (lo:=w.heap.size) (row:=none) (λk I _ _ hx=>af))).ar
   exact Xi
theorem aa2(s g:Nat)(n:Int)(l:List UInt8)(y t:Bool)(w:World)(h:RW s g n l y t w)(_:l.length<=1000000000)(_:0<=n)(_:n<=1000000000) :
 Calls prog 108 #[.pointer (some ⟨s,0,none⟩),.func (Fn.func 109) #[] #[]] w λe w' =>
  ∃v,e=.returned v/\nI bI w.heap.size (gm ib l y t).1 v w'/\RW s g n (gm ib l y t).2.1 (gm ib l y t).2.2.1 (gm ib l y t).2.2.2 w'/\ah (XW s g) w w':=by
 have H:=Hw s g n l y t 17 w h af
 have V:=yR 17 af l y t
 have S:=(yM 17 af).len l y t
 unfold gm
 generalize lH 17 l y t=a at *
 obtain⟨M,B,C,A⟩:=a
 simp only at H V S⊢
 rw[show ((17:Nat):Int)=17 from rfl]at H
 have H:=ae H
 have eC:=h.lt
 have hgg:=h.2.2
 have HQ:=ae (λk=>Kh Hv k B C A)
 clear h
 have N:Hid (fO ib M B C A=fO ib M B C A):=ae rfl
 generalize O:fO ib M B C A=R at N⊢
 have eB:=ae O
 clear O N
 go_enter func108,ntmps108
 go_wp2_with fail
 refine H.aa.mono ?_
 rintro e w1⟨rfl,I,Q⟩
 go_wp2_with fail
 go_loopw [5,8] (fun o i W=>∃j:Nat,j<=M/\i=.int .u64 (j:Int)/\∃es D F E,Hid (fO ib j B C A=(es,D,F,E))/\RW s g n D F E W/\Hid (aX w.heap.size w.heap.size 46 bI es o W)/\ah (XW s g) w W) (fun _ i _=>M-(intOf i).toNat)
 case atStart=>exact⟨0,af,rfl,[],B,C,A,ae rfl,I,ae (aX.nil _ _ _ _ _),Q⟩
 case round =>
  clear I Q;obtain⟨j,hj,rfl,es,D,F,E,HJ,Cm,HO,uj⟩:=hrel;have L:=HQ.aa j;rw[HJ.aa]at L;simp only at L;obtain⟨ot,sE⟩:=L;have aj4:es.length<=17:=af;clear sE;have hzj:=uj.size;by_cases jl:j<M
  ·have ba:(j:Int)<(M:Int):=af;have zJ:Hid (fO ib (j+1) B C A=(es++[(ib D F E).1],(ib D F E).2)):=ae Xc;go_wp2_with fail
   refine (aaU s g n D F E wr Cm).mono ?_;rintro e G⟨rfl,FT,u4⟩;generalize Z:ib D F E=X at *;obtain⟨x,lk,Db,Dc⟩:=X;simp only at FT;have Mp:Hid (fO ib (j+1) B C A=(es++[x],lk,Db,Dc)):=ae Xd;have cE:=HO.aa.up (aG _) (u4.iK (lo:=w.heap.size) (row:=none) (λk I _ _ hx=>Xe));have iX:=u4.size;obtain⟨css,hown,U,ln⟩:=cE;have kA:K G (G.alloc (.cells (bZ x) 46)):=(K.rf G).al _;have T:w.heap.size<=(G.alloc (.cells (bZ x) 46)).heap.size:=K5;clear HO HJ zJ Z;go_wp2_with (at_builtin;refine iC rfl _ _ 32 rfl w.heap.size 46 _ 3 24 TID _ _ _ rfl (pg hown _) (G.heap.size+1) _ 1 1 (bZ x).toList rfl ?c1 ?c2 ?c3 T ?_)
   case c1=>exact Reads.new G (bZ x).toList 46 3 1 rfl
   case c2=>and_intros <;> rfl
   case c3=>omega
   intro Y J eU bJ dc bo;have oT:Below w.heap.size (G.alloc (.cells (bZ x) 46)) J:=bo;have YD:RW s g n lk Db Dc J:=by exact Xf
   have u9:ah (XW s g) w J:=by exact Xg
   have zX:Hid (aX w.heap.size w.heap.size 46 bI (es++[x]) Y J):=ae (aX.snoc (cs:=(bZ x).toList) U (λw' u=>ln w' (aH.tr (aH.bg kA _ _) u)) eU bJ pO (λw' u=>rfl));exact Xh
  ·have ba:¬(j:Int)<(M:Int):=af;obtain rfl:j=M:=af;have hR:=HJ.aa.symm.trans eB.aa;obtain rfl:=hR;have HL:Hid (nI bI w.heap.size es u5 wr):=ae λW' u=>(HO.aa.up (aG _) (u.iK (lo:=w.heap.size) (row:=none) (λk I _ _ hx=>af))).ar
   exact Xi
theorem S4(s g:Nat)(n:Int)(l:List UInt8)(y t:Bool)(w:World)(h:RW s g n l y t w)(hl:l.length<=1000000000)(hn0:0<=n)(dK:n<=1000000000) :
 Calls prog 106 #[.pointer (some ⟨s,0,none⟩),.func (Fn.func 107) #[] #[]] w λe w' =>
  ∃v,e=.returned v/\nI aQ w.heap.size (gm (iT n) l y t).1 v w'/\RW s g n (gm (iT n) l y t).2.1 (gm (iT n) l y t).2.2.1 (gm (iT n) l y t).2.2.2 w'/\ah (XW s g) w w':=by
 have O:=Hw s g n l y t 17 w h af
 have hlt:=yR 17 af l y t
 have jD:=(yM 17 af).len l y t
 unfold gm
 generalize lH 17 l y t=a at *
 obtain⟨M,B,D,A⟩:=a
 simp only at O hlt jD⊢
 rw[show ((17:Nat):Int)=17 from rfl]at O
 have O:=ae O
 have eC:=h.lt
 have hgg:=h.2.2
 have HQ:=ae (λk=>Kh (ET n) k B D A)
 clear h
 have U:Hid (fO (iT n) M B D A=fO (iT n) M B D A):=ae rfl
 generalize Z:fO (iT n) M B D A=R at U⊢
 have eB:=ae Z
 clear Z U
 go_enter func106,ntmps106
 go_wp2_with fail
 refine O.aa.mono ?_
 rintro e w1⟨rfl,L,u1⟩
 go_wp2_with fail
 go_loopw [5,8] (fun o i W=>∃j:Nat,j<=M/\i=.int .u64 (j:Int)/\∃es E G F,Hid (fO (iT n) j B D A=(es,E,G,F))/\RW s g n E G F W/\Hid (aX w.heap.size w.heap.size 102 aQ es o W)/\ah (XW s g) w W) (fun _ i _=>M-(intOf i).toNat)
 case atStart=>exact⟨0,af,rfl,[],B,D,A,ae rfl,L,ae (aX.nil _ _ _ _ _),u1⟩
 case round =>
  clear L u1;obtain⟨j,hj,rfl,es,E,G,F,HJ,Cm,HO,uj⟩:=hrel;have T:=HQ.aa j;rw[HJ.aa]at T;simp only at T;obtain⟨ot,sE⟩:=T;have aj4:es.length<=17:=af;clear sE;have hzj:=uj.size;by_cases jl:j<M
  ·have ba:(j:Int)<(M:Int):=af;have zJ:Hid (fO (iT n) (j+1) B D A=(es++[((iT n) E G F).1],((iT n) E G F).2)):=ae Xc;go_wp2_with fail
   refine (an9 s g n E G F wr Cm af hn0 dK).mono ?_;rintro e C⟨v4,rfl,Q,FT,u4⟩;generalize hX:iT n E G F=X at *;obtain⟨x,lk,Db,Dc⟩:=X;simp only at Q FT;obtain⟨vf,ve,rfl,hf,V⟩:=Q C (ah.rf _ _);obtain⟨I,J,rfl⟩:=cB hf;obtain⟨H,N,rfl⟩:=az V;have oy:=ae Q;clear Q hf V;have Mp:Hid (fO (iT n) (j+1) B D A=(es++[x],lk,Db,Dc)):=ae Xd;have cE:=HO.aa.up (aG _) (u4.iK (lo:=w.heap.size) (row:=none) (λk L _ _ hx=>Xe));have ll:=HO.aa.blk;have iX:=u4.size;obtain⟨css,hown,hcl,ln⟩:=cE;have kA:K C (C.alloc (.cells (aA x (.slice I x.f.length J) (.slice H x.es.length N)) 102)):=(K.rf C).al _;have hbase:w.heap.size<=(C.alloc (.cells (aA x (.slice I x.f.length J) (.slice H x.es.length N)) 102)).heap.size:=K5;clear HO HJ zJ hX;go_wp2_with (at_builtin;refine iC rfl _ _ 39 rfl w.heap.size 102 _ 8 96 axv _ _ _ rfl (pg hown _) (C.heap.size+1) _ 1 1 (aA x (.slice I x.f.length J) (.slice H x.es.length N)).toList rfl ?c1 ?c2 ?c3 hbase ?_)
   case c1=>exact Reads.new C (aA x (.slice I x.f.length J) (.slice H x.es.length N)).toList 102 8 1 rfl
   case c2=>and_intros <;> rfl
   case c3=>omega
   intro v9 S eU bJ dc bo;have oT:Below w.heap.size (C.alloc (.cells (aA x (.slice I x.f.length J) (.slice H x.es.length N)) 102)) S:=bo;have YD:RW s g n lk Db Dc S:=by exact Xf
   have u9:ah (XW s g) w S:=by exact Xg
   have zX:Hid (aX w.heap.size w.heap.size 102 aQ (es++[x]) v9 S):=ae (aX.snoc (cs:=(aA x (.slice I x.f.length J) (.slice H x.es.length N)).toList) hcl (λw' u=>ln w' (aH.tr (aH.bg kA _ _) u)) eU bJ pO (λw' u=>by
    obtain⟨vf,ve,Y,L,h2⟩:=oy.aa w' ⟨u.os,u.tape,u.output,bq kA.size u.size,λk hk hx=>(u.block k af (bB hk kA.size) (by intro e;have:=ll k e.symm;omega)).trans (kA.block k hk)⟩;simp only[Value.agg.injEq,Array.mk.injEq,List.cons.injEq,and_true,true_and]at Y;obtain⟨rfl,rfl⟩:=Y;exact⟨_,_,rfl,L,h2⟩))
   exact Xh
  ·have ba:¬(j:Int)<(M:Int):=af;obtain rfl:j=M:=af;have hR:=HJ.aa.symm.trans eB.aa;obtain rfl:=hR;have HL:Hid (nI aQ w.heap.size es u5 wr):=ae λW' u=>(HO.aa.up (aG _) (u.iK (lo:=w.heap.size) (row:=none) (λk L _ _ hx=>af))).ar
   exact Xi
abbrev zML:List Value:=[.int .i64 0,.int .u64 0,.slice none 0 0,.slice none 0 0,.slice none 0 0,.slice none 0 0,.slice none 0 0,.slice none 0 0]
abbrev FU:Array Value:=#[.int .i64 0,.int .u64 0,.slice none 0 0,.slice none 0 0,.slice none 0 0,.slice none 0 0,.slice none 0 0,.slice none 0 0]
theorem avk(w:World):js xQ (.agg FU) w:=⟨_,_,_,_,_,_,rfl,iu _ _,iu _ _,iu _ _,iu _ _,iu _ _,iu _ _⟩
structure DM(w0:World)(r g gw h:Nat)(n:Int)(l:List UInt8)(wr bd:Bool)(cs:Array Value)(W:World):Prop where
 rw:RW gw g n l wr bd W
 x:ai W h 41 cs
 rv:ai W r 41 FU
 k:K w0 W
 o:w0.heap.size<=r/\r<g/\g<gw/\gw<h
section
variable {w0 W W':World} {r g gw h:Nat} {n:Int} {l l':List UInt8} {wr bd wr' Ji:Bool} {cs:Array Value}
theorem DM.bT(D:DM w0 r g gw h n l wr bd cs W)(u:ah (XW gw g) W W')(s:RW gw g n l' wr' Ji W'):DM w0 r g gw h n l' wr' Ji cs W':=by
 have o:=D.o;have k:=D.k;exact⟨s,D.x.bT u Be,D.rv.bT u Be,
  ⟨u.os.trans k.os,u.tape.trans k.tape,u.output.trans k.output,bq k.size u.size,λi j=>(u.block i (bB j k.size) Be).trans (k.block i j)⟩,o⟩
theorem DM.set(D:DM w0 r g gw h n l wr bd cs W)(i:Nat)(u:Value):DM w0 r g gw h n l wr bd (cs.setIfInBounds i u) (W.setCell ⟨h,i,none⟩ u):=by have o:=D.o;exact⟨D.rw.far o.2.2.2 i u,D.x.aR i u,D.rv.far aU u,D.k.setCell aU u,o⟩
theorem DM.st(D:DM w0 r g gw h n l wr bd cs W)(k:K W W'):DM w0 r g gw h n l wr bd cs W':=⟨D.rw.st k,D.x.below k D.x.lt,D.rv.below k D.rv.lt,D.k.tr k,D.o⟩
theorem ah.mono{X X':Nat->Prop}(h:ah X W W')(i:∀k,X k->X' k):ah X' W W':=⟨h.os,h.tape,h.output,h.size,λk j s=>h.block k j (λt=>s (i k t))⟩
theorem nI.less{α:Type}{S:cF α}{i j:Nat}{x:List α}{v:Value}(s:nI S i x v W)(hg:j<=i):nI S j x v W:=λt u=>s t (u.mono (λk hk=>af))
theorem nI.mv{α:Type}{S:cF α}{h:Nat}{x:List α}{v:Value}(j:nI S h x v W)(u:ah (λk=>k<h) W W'):nI S h x v W':=λs i=>j s (u.tr i)
theorem nI.sl{α:Type}{S:cF α}{h:Nat}{x:List α}{v:Value}(i:nI S h x v W):∃A c,v=.slice A x.length c:=az (i W (ah.rf _ _))
theorem Io{α:Type}(S:cF α)(h:Nat)(W:World):nI S h [] (.slice none 0 0) W:=λ_ _=>iu _ _
end
def NF(h:Nat)(m:bK)(y s t j u i:Value)(W:World):Prop:=nI jW (h+1) m.bM y W/\nI aQ (h+1) m.asks s W/\nI aQ (h+1) m.entries t W/\nI aQ (h+1) m.cH j W/\nI bI (h+1) m.bY u W/\nI bI (h+1) m.ends i W
structure DL(w0:World)(r g gw h:Nat)(n:Int)(l:List UInt8)(wr bd:Bool)(m:bK)(v1 v2 v3 v4 v5 v6:Value)(W:World):Prop where
 d:DM w0 r g gw h n l wr bd (fH m v1 v2 v3 v4 v5 v6) W
 m:NF h m v1 v2 v3 v4 v5 v6 W
section
variable {w0 W W':World} {r g gw h:Nat} {n:Int} {l l':List UInt8} {wr bd wr' Ji:Bool} {m m':bK} {v1 v2 v3 v4 v5 v6 u1 u2 u3 u4 u5 u6:Value}
theorem NF.mv(H:NF h m v1 v2 v3 v4 v5 v6 W)(u:ah (λk=>k<h+1) W W'):NF h m v1 v2 v3 v4 v5 v6 W' :=
 ⟨H.1.mv u,H.2.1.mv u,H.2.2.1.mv u,H.2.2.2.1.mv u,H.2.2.2.2.1.mv u,H.2.2.2.2.2.mv u⟩
theorem DL.go(D:DL w0 r g gw h n l wr bd m v1 v2 v3 v4 v5 v6 W)(u:ah (XW gw g) W W')(i:RW gw g n l' wr' Ji W'):DL w0 r g gw h n l' wr' Ji m v1 v2 v3 v4 v5 v6 W' :=
 ⟨D.d.bT u i,D.m.mv (u.mono λk hk=>by have:=D.d.o;rcases hk with hk|hk <;> omega)⟩
theorem DL.put(D:DL w0 r g gw h n l wr bd m v1 v2 v3 v4 v5 v6 W)(i:Nat)(v:Value)(H:NF h m' u1 u2 u3 u4 u5 u6 W)(e:(fH m v1 v2 v3 v4 v5 v6).setIfInBounds i v=fH m' u1 u2 u3 u4 u5 u6):DL w0 r g gw h n l wr bd m' u1 u2 u3 u4 u5 u6 (W.setCell ⟨h,i,none⟩ v) :=
 ⟨e▸D.d.set i v,H.mv (ah.b6 (X:=λk=>k<h+1) (Nat.lt_succ_self h) i v)⟩
theorem DM.put(D:DM w0 w0.heap.size g gw h n l wr bd (fH m v1 v2 v3 v4 v5 v6) W)(us:List Value)(i:us.length=8):ai (fN W w0.heap.size 0 us) w0.heap.size 41 us.toArray/\K w0 (fN W w0.heap.size 0 us)/\ah (λk=>k<h+1) W (fN W w0.heap.size 0 us) :=
 ⟨Ve D.rv i,K.sets (aG _) _ _ _ D.k,ah.sets (X:=λk=>k<h+1) Vn _ _ _⟩
end
theorem aov(b:List UInt8)(v:Value)(w:World)(hb:sl b v w)(hn:b.length<=1000000000) :
 Calls prog 56 #[v] w λe w'=>∃v',e=.returned (.tuple #[v',.int .i64 (tV b)])/\(∀W,ah (λk=>k<w.heap.size) w' W->js (oJ b) v' W)/\K w w':=by
 obtain⟨A,c,rfl,s⟩:=hb
 have dm:=ai.new w 41 FU
 have k0:K w (w.alloc (.cells FU 41)):=(K.rf w).al _
 have sB:=(s.below k0 (aG _)).more k0.size
 obtain⟨n,zB⟩:∃n:Int,n=(b.length:Int):=⟨_,rfl⟩
 have hn0:0<=n:=af
 have dK:n<=1000000000:=af
 obtain⟨k,l1,eG,E,qu⟩:∃k l1 eG E,lH 3 b false false=(k,l1,eG,E):=⟨_,_,_,_,rfl⟩
 obtain⟨got,H,I,tl⟩:∃got H I,aC l1 eG=(got,H,I):=⟨_,_,_,rfl⟩
 have hHd:fR b false false=((k,got),H,I,E):=by simp only[fR,lW,BH,qu,tl]
 have jA:k<3:=by have:=yR 3 (by omega) b false false;rw[qu]at this;exact this
 have fg:H.length<=1000000000:=by have g1:=(yM 3 af).len b false false;have g2:=nW l1 eG;rw[qu]at g1;rw[tl]at g2;simp only at g1 g2;omega
 have hwk:IntKind.i64.wrap (k:Int)=(k:Int):=KX
 have C1:=λt g W h=>Hw t g n b false false 3 W h af
 have C2:=λg W h=>sQ g l1 eG W h
 simp only[qu,tl]at C1 C2
 rw[show ((3:Nat):Int)=3 from rfl]at C1
 have V:Hid (sf b=if !(nj n b false false).2.2.2&&(!(nj n b false false).2.2.1&&(nj n b false false).2.1.isEmpty)&&ed (nj n b false false).1 then some (nj n b false false).1 else none):=ae (by rw[zB];rfl)
 have S:=ae hHd
 have C1:=ae C1
 have C2:=ae C2
 have Hi:Hid (tV b=if (sf b).isSome then 0 else 130):=ae rfl
 have HMX:Hid (oJ b=(sf b).getD xQ):=ae rfl
 generalize tV b=CK at *
 generalize oJ b=MX at *
 have hzz:w.heap.size<(w.alloc (.cells FU 41)).heap.size:=aj
 clear hHd qu tl s
 go_enter func56,ntmps56
 go_wp2_with fail
 generalize w.alloc _=w1 at *
 refine (Om A _ c b w1 _ sB (aG _) hn).mono ?_
 rintro e Q⟨g,rfl,hg,ng,k2⟩
 have bE:=dm.below k2 dm.lt
 have hrg:w.heap.size<g:=bB hzz hg
 replace k0:=k0.tr k2
 have ij:=ng.lt
 clear sB k2 dm hzz hg
 have hw3:RW Q.heap.size g n b false false (Q.alloc (.cells #[.pointer (some ⟨g,0,none⟩),.int .i64 (b.length:Int),.bool false] 174)):=by rw[<- zB];exact⟨ai.new _ _ _,ng.al _,ij⟩
 have U:K Q (Q.alloc (.cells #[.pointer (some ⟨g,0,none⟩),.int .i64 (b.length:Int),.bool false] 174)):=(K.rf Q).al _
 go_upto_region 2 with (fail)
 generalize Q.alloc _=w3 at *
 have dz:=bE.below U bE.lt
 have T:=k0.tr U
 generalize eC:Q.heap.size=t at *
 clear U bE k0 ng eC
 go_wp2_with fail
 refine (C1.aa t g w3 hw3).mono ?_
 rintro e w4⟨rfl,h4,Y⟩
 have dD:=dz.bT Y Be
 have iX:=h4.lt
 have D:DM w w.heap.size g t w4.heap.size n l1 eG E #[.int .i64 (k:Int),.int .u64 0,.slice none 0 0,.slice none 0 0,.slice none 0 0,.slice none 0 0,.slice none 0 0,.slice none 0 0]
  (w4.alloc (.cells #[.int .i64 (k:Int),.int .u64 0,.slice none 0 0,.slice none 0 0,.slice none 0 0,.slice none 0 0,.slice none 0 0,.slice none 0 0] 41)):=by
  have U:=(K.rf w4).al (.cells #[.int .i64 (k:Int),.int .u64 0,.slice none 0 0,.slice none 0 0,.slice none 0 0,.slice none 0 0,.slice none 0 0,.slice none 0 0] 41)
  refine⟨h4.st U,ai.new _ _ _,dD.below U dD.lt,Below.tr ?_ U,aG _,hrg,ij,iX⟩
  exact⟨Y.os.trans T.os,Y.tape.trans T.tape,Y.output.trans T.output,bq T.size Y.size,λi hi=>(Y.block i (bB hi T.size) Be).trans (T.block i hi)⟩
 clear hw3 dz T h4 Y dD C1
 go_upto_region 3 with (fail)
 generalize w4.alloc _=w5 at *
 generalize w4.heap.size=h at *
 have q:=D.rw.1.cell
 go_wp2_with fail
 refine (C2.aa g w5 D.rw.2.1).mono ?_
 rintro e w6⟨rfl,sw⟩
 replace D:=D.bT (ah.went (X:=XW t g) sw (.inl rfl)) (D.rw.went sw)
 clear q sw C2
 have q:=D.x.cell
 have z:=D.x.frozen
 go_upto_region 4 with (fail)
 replace D:DL w w.heap.size g t h n H I E ⟨k,got,[],[],[],[],[],[]⟩ (.slice none 0 0) (.slice none 0 0) (.slice none 0 0) (.slice none 0 0) (.slice none 0 0) (.slice none 0 0) (w6.setCell ⟨h,1,none⟩ (.int .u64 (got:Int))):=⟨D.set 1 _,Io _ _ _,Io _ _ _,Io _ _ _,Io _ _ _,Io _ _ _,Io _ _ _⟩
 clear q z
 generalize w6.setCell _ _=w7 at *
 have o:=D.d.o
 clear zB C1 iX
 have q:=D.d.x.cell
 go_upto_block 0 with (fail)
 clear q
 go_cut []from 24 to 45 (fun W=>∃(M:bK) (l:List UInt8) (wr bd:Bool) (v1 v2 v3 v4 v5 v6:Value),DL w w.heap.size g t h n l wr bd M v1 v2 v3 v4 v5 v6 W/\Hid (sf b=if !bd&&(!wr&&l.isEmpty)&&ed M then some M else none))
 case first =>
  by_cases eK:k=1
  ·subst eK;have y:=V.aa;rw[VH S.aa]at y;obtain⟨O,J,BV,L,Z⟩:∃x l w c,gm mZ H I E=(x,l,w,c):=⟨_,_,_,_,rfl⟩;have R:=bq ((vL TJ).len H I E) fg;have F:=λW G=>aog t g n H I E W G fg hn0 dK
   simp only[Z]at F R;have F:=ae F;obtain⟨x2,l4,SE,SF,N⟩:∃x l w c,gm (iT n) J BV L=(x,l,w,c):=⟨_,_,_,_,rfl⟩;have lh:=bq ((vL (ET n)).len J BV L) R;have B:=λW G=>S4 t g n J BV L W G R hn0 dK
   simp only[N]at B lh;have B:=ae B;simp only[zm,lW,Z,N]at y;have HD:=ae y;clear V S hwk y Z N;go_wp2_with fail
   refine (F.aa w7 D.d.rw).mono ?_;rintro e C⟨v,rfl,j,s,u⟩;replace j:=j.less (show h+1<=w7.heap.size from D.d.x.lt);obtain⟨A3,c3,rfl⟩:=j.sl;replace D:=D.go u s;clear u s F;have q:=D.d.x.cell;have z:=D.d.x.frozen;go_upto_region 7 with (fail);replace D:=D.put (m':=⟨1,got,O,[],[],[],[],[]⟩) 2 _ ⟨j,D.m.2⟩ rfl;clear q z j;generalize C.setCell _ _=NG at *;go_wp2_with fail
   refine (B.aa NG D.d.rw).mono ?_;rintro e C⟨v,rfl,j,s,u⟩;replace j:=j.less (show h+1<=NG.heap.size from D.d.x.lt);obtain⟨A4,c4,rfl⟩:=j.sl;replace D:=D.go u s;clear u s B;have q:=D.d.x.cell;have z:=D.d.x.frozen;go_upto_region 13 with (fail);replace D:=D.put (m':=⟨1,got,O,x2,[],[],[],[]⟩) 3 _ ⟨D.m.1,j,D.m.2.2⟩ rfl;clear q z j;generalize C.setCell _ _=wb4 at *;exact Xj
  by_cases hk2:k=2
  ·subst hk2;have y:=V.aa;rw[VI S.aa]at y;obtain⟨O,J,BV,L,Z⟩:∃x l w c,gm (iT n) H I E=(x,l,w,c):=⟨_,_,_,_,rfl⟩;have R:=bq ((vL (ET n)).len H I E) fg;have F:=λW G=>S4 t g n H I E W G fg hn0 dK
   simp only[Z]at F R;have F:=ae F;obtain⟨x2,l4,SE,SF,N⟩:∃x l w c,gm (iT n) J BV L=(x,l,w,c):=⟨_,_,_,_,rfl⟩;have lh:=bq ((vL (ET n)).len J BV L) R;have B:=λW G=>S4 t g n J BV L W G R hn0 dK
   simp only[N]at B lh;have B:=ae B;obtain⟨x3,l5,wr5,bd5,Ey⟩:∃x l w c,gm ib l4 SE SF=(x,l,w,c):=⟨_,_,_,_,rfl⟩;have B4:=bq ((vL Hv).len l4 SE SF) lh;have L5:=λW G=>aa2 t g n l4 SE SF W G lh hn0 dK
   simp only[Ey]at L5 B4;have L5:=ae L5;obtain⟨x4,l6,wr6,bd6,hB6⟩:∃x l w c,gm ib l5 wr5 bd5=(x,l,w,c):=⟨_,_,_,_,rfl⟩;have hl6:=bq ((vL Hv).len l5 wr5 bd5) B4;have L6:=λW G=>aa2 t g n l5 wr5 bd5 W G B4 hn0 dK
   simp only[hB6]at L6 hl6;have L6:=ae L6;simp only[oR,lW,Z,N,Ey,hB6]at y;have HD:=ae y;clear V S hwk y Z N Ey hB6;go_wp2_with fail
   refine (F.aa w7 D.d.rw).mono ?_;rintro e C⟨v,rfl,j,s,u⟩;replace j:=j.less (show h+1<=w7.heap.size from D.d.x.lt);obtain⟨A3,c3,rfl⟩:=j.sl;replace D:=D.go u s;clear u s F;have q:=D.d.x.cell;have z:=D.d.x.frozen;go_upto_region 10 with (fail);replace D:=D.put (m':=⟨2,got,[],[],O,[],[],[]⟩) 4 _ ⟨D.m.1,D.m.2.1,j,D.m.2.2.2⟩ rfl;clear q z j;generalize C.setCell _ _=NG at *;go_wp2_with fail
   refine (B.aa NG D.d.rw).mono ?_;rintro e C⟨v,rfl,j,s,u⟩;replace j:=j.less (show h+1<=NG.heap.size from D.d.x.lt);obtain⟨A4,c4,rfl⟩:=j.sl;replace D:=D.go u s;clear u s B;have q:=D.d.x.cell;have z:=D.d.x.frozen;go_upto_region 11 with (fail);replace D:=D.put (m':=⟨2,got,[],[],O,x2,[],[]⟩) 5 _ ⟨D.m.1,D.m.2.1,D.m.2.2.1,j,D.m.2.2.2.2⟩ rfl;clear q z j;generalize C.setCell _ _=wb4 at *;go_wp2_with fail
   refine (L5.aa wb4 D.d.rw).mono ?_;rintro e C⟨v,rfl,j,s,u⟩;replace j:=j.less (show h+1<=wb4.heap.size from D.d.x.lt);obtain⟨A5,c5,rfl⟩:=j.sl;replace D:=D.go u s;clear u s L5;have q:=D.d.x.cell;have z:=D.d.x.frozen;go_upto_region 12 with (fail);replace D:=D.put (m':=⟨2,got,[],[],O,x2,x3,[]⟩) 6 _ ⟨D.m.1,D.m.2.1,D.m.2.2.1,D.m.2.2.2.1,j,D.m.2.2.2.2.2⟩ rfl;clear q z j;generalize C.setCell _ _=wb5 at *;go_wp2_with fail
   refine (L6.aa wb5 D.d.rw).mono ?_;rintro e C⟨v,rfl,j,s,u⟩;replace j:=j.less (show h+1<=wb5.heap.size from D.d.x.lt);obtain⟨A6,c6,rfl⟩:=j.sl;replace D:=D.go u s;clear u s L6;have q:=D.d.x.cell;have z:=D.d.x.frozen;go_upto_region 13 with (fail);replace D:=D.put (m':=⟨2,got,[],[],O,x2,x3,x4⟩) 7 _ ⟨D.m.1,D.m.2.1,D.m.2.2.1,D.m.2.2.2.1,D.m.2.2.2.2.1,j⟩ rfl;clear q z j;generalize C.setCell _ _=wb6 at *;exact Xj
  have y:=V.aa;rw[Xw S.aa eK hk2]at y;have HD:=ae y;have hkk:¬(k:Int)=1:=af;have aDw:¬(k:Int)=2:=af;clear V S eK hk2 hwk y;exact Xj
 case rest =>
 clear D V S
 obtain⟨M,l,wr,bd,v1,v2,v3,v4,v5,v6,D,HD⟩:=hcut
 obtain⟨A1,c1,rfl⟩:=D.m.1.sl
 obtain⟨A2,c2,rfl⟩:=D.m.2.1.sl
 obtain⟨A3,c3,rfl⟩:=D.m.2.2.1.sl
 obtain⟨A4,c4,rfl⟩:=D.m.2.2.2.1.sl
 obtain⟨A5,c5,rfl⟩:=D.m.2.2.2.2.1.sl
 obtain⟨A6,c6,rfl⟩:=D.m.2.2.2.2.2.sl
 have Hh:Hid (∀W,ah (λk=>k<h+1) wc W->js M (.agg (fH M (.slice A1 M.bM.length c1) (.slice A2 M.asks.length c2) (.slice A3 M.entries.length c3) (.slice A4 M.cH.length c4) (.slice A5 M.bY.length c5) (.slice A6 M.ends.length c6))) W):=ae λW u=>⟨_,_,_,_,_,_,rfl,D.m.1 W u,D.m.2.1 W u,D.m.2.2.1 W u,D.m.2.2.2.1 W u,D.m.2.2.2.2.1 W u,D.m.2.2.2.2.2 W u⟩
 replace D:=D.d
 obtain⟨dn,CZ⟩:∃dn,dn=(!wr&&l.isEmpty):=⟨_,rfl⟩
 obtain⟨ok,hok⟩:∃ok,ok=ed M:=⟨_,rfl⟩
 rw[<- CZ,<- hok]at HD
 have HDN:=ae CZ
 have iZ:=ae hok
 clear CZ hok
 have qw:=D.rw.1.cell
 cases bd
 rotate_left
 ·exact Xk
 go_wp2_with fail
 refine (Oa g _ _ _ D.rw.2.1).mono ?_
 rintro e w8⟨rfl,rfl⟩
 rw[<- HDN.aa]
 cases dn
 ·exact Xk
 have qm:=D.x.cell
 go_wp2_with fail
 refine (aa6 M (.agg (fH M (.slice A1 M.bM.length c1) (.slice A2 M.asks.length c2) (.slice A3 M.entries.length c3) (.slice A4 M.cH.length c4) (.slice A5 M.bY.length c5) (.slice A6 M.ends.length c6))) wc (Hh.aa _ (ah.rf _ _))).mono ?_
 rintro e w9⟨rfl,k9⟩
 replace D:=D.st k9
 clear qw qm
 cases ok
 ·have BQ:ig M=130:=by unfold ig;rw[<- iZ.aa];rfl
  rw[BQ];clear BQ;exact Xk
 have BQ:ig M=0:=by unfold ig;rw[<- iZ.aa];rfl
 rw[BQ]
 clear BQ
 have q:=D.rv.cell
 have q2:=D.x.cell
 have z:=D.rv.frozen
 have aj5:Hid (sf b=some M):=ae (by rw[HD.aa];simp)
 obtain rfl:CK=0:=by rw[Hi.aa,aj5.aa];rfl
 obtain rfl:MX=M:=by rw[HMX.aa,aj5.aa];rfl
 go_wp2
 have P9:=D.put [.int .i64 MX.kind,.int .u64 (MX.got:Int),.slice A1 MX.bM.length c1,.slice A2 MX.asks.length c2,.slice A3 MX.entries.length c3,.slice A4 MX.cH.length c4,.slice A5 MX.bY.length c5,.slice A6 MX.ends.length c6] rfl
 simp only[fN,Nat.reduceAdd,fP]at P9
 clear q q2 z
 generalize World.setCell _ _ _=W9 at *
 have e9:=P9.1.cell
 have o:=D.o
 refine bodyPost_ret (v:=.tuple #[.agg (fH MX (.slice A1 MX.bM.length c1) (.slice A2 MX.asks.length c2) (.slice A3 MX.entries.length c3) (.slice A4 MX.cH.length c4) (.slice A5 MX.bY.length c5) (.slice A6 MX.ends.length c6)),.int .i64 0]) ai1 rfl ?_
 exact⟨_,rfl,λW u=>Hh.aa W (((ah.bg k9 _).tr P9.2.2).tr (u.mono λk hk=>bB hk af)),P9.2.1⟩
