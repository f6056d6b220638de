/-
  The walks of order.Decide's closures (layer 19). Conditions: none.
-/
import Derived.Test.YtfndfpdhlbmboaaGreatMd18
import Derived.Test.YtfndfpdhlbmboaaGreatMdz
set_option maxRecDepth 100000
set_option linter.constructorNameAsVariable false
set_option maxHeartbeats 16000000
set_option linter.unusedVariables false
set_option linter.unusedSimpArgs false
namespace Go.Proofs.YtfndfpdhlbmboaaGreat
open Go Go.RowKit _root_.Go.Proofs.Tryz
def Mq{α:Type}(Y:Nat->Prop)(base:Nat)(T e:TypeId)(S:ei α)(l:List α)(t:Value)(j:Nat)(w w':World):Prop :=
 ∃v',ai w' j T #[v']/\aB Y base e S l v' w'/\(∀k,v'.ownBlock=some k->t.ownBlock=some k∨w.heap.size<=k)/\ag (λk=>k=j∨t.ownBlock=some k) w w'
theorem asp Y base o B j x v w(h:dm x v w)(hs:eJ x)(hb:ai w j 43 #[B])(u:aB Y base 126 aV o B w)(hY:∀k,Y k->k<w.heap.size)(Hm:Y j)(hbase:base<=w.heap.size)(dw:j<base)(hlen:o.length<=1000000) :
 Calls prog 233 #[v,.pointer (some ⟨j,0,none⟩)] w λe w'=>e=.returned (.tuple #[])/\Mq Y base 43 126 aV (o++[x]) B j w w':=by
 have R:=ae func233
 have zN:=ae ntmps233
 have zR:=ae results233
 have HE:=ae λW (k:K w W)=>LM h k
 obtain⟨vf,ve,rfl,Q,L⟩:=h
 obtain⟨Af,Z,rfl⟩:=cA Q
 obtain⟨T,ce,rfl⟩:=av L
 have E:=ai.new w 126 (aE x (.slice Af x.f.length Z) (.slice T x.es.length ce))
 have k1:=E.aU
 obtain⟨A,F,rfl⟩:=u.slice
 have C:=hb.ay k1
 have J:=u.st k1
 have bT:=u.blk
 clear Q L hb u
 go_enter R.aa,zN.aa
 go_upto_region 1 with (fail)
 generalize w.alloc _=M at *
 have qx:=E.cells
 have qo:=C.cells
 have qs:=And.intro qx qo
 refine dV 4 ?_
 iterate 2 refine au.i ?_
 refine au.op (Mo M.heap.size x) (WJ _ _) (λV W kW hp=>?_) ?_
 ·(try simp only[cF,aO,aR,bW,bY,aJ]at hp)
  exact ahG
 refine au.row (N:=λk=>k<M.heap.size) (S:=aV) 43 _ 8 96 pw rfl ax _ x rfl rfl (λV W kW hp=>?_) ?_
 ·exact WK
 clear qs
 intro V W kW hA
 simp only[aO,aR,cC,aJ,Nat.reduceAdd]at hA
 obtain⟨e0,U,h2,h3,-⟩:=hA
 have I:=J.st kW
 have hz1:=k1.size
 refine aH.push _ _ 43 _ 8 96 pw rfl rfl rfl _ o x fP I ?_ af (bn hbase (bn hz1 kW.size)) ?_
 ·exact ahH
 intro t H bq D cY aY
 obtain⟨G,Ka⟩:∃G,Hid (G=o++[x]):=⟨_,ae rfl⟩
 rw[<- Ka.aa]at bq
 have O:=C.ay kW
 have y:=O.grown D aA
 have q9:=y.cell
 have z9:=y.frozen
 have h1:t.oneCell'=true:=ahI
 have HU:=ae ((ag.aT (k1.tr kW) _).tr ((ag.eU (X:=λk=>k=j∨(Value.slice A o.length F).ownBlock=some k) D λk e=>.inr e).tr (ag.bM (X:=λk=>k=j∨(Value.slice A o.length F).ownBlock=some k) (.inl rfl) 0 t)))
 have HB:Hid (ai (H.setCell ⟨j,0,none⟩ t) j 43 #[t]):=ae (y.aQ 0 t)
 have zB:=ae (bq.to (X:=λk=>k=j) (ag.bM (X:=λk=>k=j) rfl 0 t) (λk hk=>Qz) (λk hk e=>WZ) λk _ hk=>.inl hk)
 have p8:Hid (∀k,t.ownBlock=some k->(Value.slice A o.length F).ownBlock=some k∨w.heap.size<=k):=ae λk hk=>by exact ahJ
 obtain⟨A9,c9,rfl⟩:=bq.slice
 refine aH.skip (H.setCell ⟨j,0,none⟩ (.slice A9 G.length c9)) rfl ahK ?_
 refine aH.nil ?_
 simp only[fZ,Act.put,sC,rI,rH,Nat.reduceAdd,bj,Nat.reduceEqDiff,reduceIte]
 clear I bq D cY aY O y q9 z9 h1 h2 h3 e0 U qx qo J C E
 go_wp2
 go_end0
 exact⟨rfl,_,HB.aa,W6,p8.aa,HU.aa⟩
theorem asq Y base o B j x v w(h:dm x v w)(hs:eJ x)(hb:ai w j 43 #[B])(u:aB Y base 126 aV o B w)(hY:∀k,Y k->k<w.heap.size)(Hm:Y j)(hbase:base<=w.heap.size)(dw:j<base)(hlen:o.length<=1000000) :
 Calls prog 234 #[v,.pointer (some ⟨j,0,none⟩)] w λe w'=>e=.returned (.tuple #[])/\Mq Y base 43 126 aV (o++[x]) B j w w':=by
 have R:=ae func234
 have zN:=ae ntmps234
 have zR:=ae results234
 have HE:=ae λW (k:K w W)=>LM h k
 obtain⟨vf,ve,rfl,Q,L⟩:=h
 obtain⟨Af,Z,rfl⟩:=cA Q
 obtain⟨T,ce,rfl⟩:=av L
 have E:=ai.new w 126 (aE x (.slice Af x.f.length Z) (.slice T x.es.length ce))
 have k1:=E.aU
 obtain⟨A,F,rfl⟩:=u.slice
 have C:=hb.ay k1
 have J:=u.st k1
 have bT:=u.blk
 clear Q L hb u
 go_enter R.aa,zN.aa
 go_upto_region 1 with (fail)
 generalize w.alloc _=M at *
 have qx:=E.cells
 have qo:=C.cells
 have qs:=And.intro qx qo
 refine dV 4 ?_
 iterate 2 refine au.i ?_
 refine au.op (Mo M.heap.size x) (WJ _ _) (λV W kW hp=>?_) ?_
 ·(try simp only[cF,aO,aR,bW,bY,aJ]at hp)
  exact ahG
 refine au.row (N:=λk=>k<M.heap.size) (S:=aV) 43 _ 8 96 pw rfl ax _ x rfl rfl (λV W kW hp=>?_) ?_
 ·exact WK
 clear qs
 intro V W kW hA
 simp only[aO,aR,cC,aJ,Nat.reduceAdd]at hA
 obtain⟨e0,U,h2,h3,-⟩:=hA
 have I:=J.st kW
 have hz1:=k1.size
 refine aH.push _ _ 43 _ 8 96 pw rfl rfl rfl _ o x fP I ?_ af (bn hbase (bn hz1 kW.size)) ?_
 ·exact ahH
 intro t H bq D cY aY
 obtain⟨G,Ka⟩:∃G,Hid (G=o++[x]):=⟨_,ae rfl⟩
 rw[<- Ka.aa]at bq
 have O:=C.ay kW
 have y:=O.grown D aA
 have q9:=y.cell
 have z9:=y.frozen
 have h1:t.oneCell'=true:=ahI
 have HU:=ae ((ag.aT (k1.tr kW) _).tr ((ag.eU (X:=λk=>k=j∨(Value.slice A o.length F).ownBlock=some k) D λk e=>.inr e).tr (ag.bM (X:=λk=>k=j∨(Value.slice A o.length F).ownBlock=some k) (.inl rfl) 0 t)))
 have HB:Hid (ai (H.setCell ⟨j,0,none⟩ t) j 43 #[t]):=ae (y.aQ 0 t)
 have zB:=ae (bq.to (X:=λk=>k=j) (ag.bM (X:=λk=>k=j) rfl 0 t) (λk hk=>Qz) (λk hk e=>WZ) λk _ hk=>.inl hk)
 have p8:Hid (∀k,t.ownBlock=some k->(Value.slice A o.length F).ownBlock=some k∨w.heap.size<=k):=ae λk hk=>by exact ahJ
 obtain⟨A9,c9,rfl⟩:=bq.slice
 refine aH.skip (H.setCell ⟨j,0,none⟩ (.slice A9 G.length c9)) rfl ahK ?_
 refine aH.nil ?_
 simp only[fZ,Act.put,sC,rI,rH,Nat.reduceAdd,bj,Nat.reduceEqDiff,reduceIte]
 clear I bq D cY aY O y q9 z9 h1 h2 h3 e0 U qx qo J C E
 go_wp2
 go_end0
 exact⟨rfl,_,HB.aa,W6,p8.aa,HU.aa⟩
theorem asr Y base o G j x v w(h:dm x v w)(hb:ai w j 44 #[G])(y:aB Y base 26 cd o G w)(Hm:Y j)(hbase:base<=w.heap.size)(dw:j<base)(hlen:o.length<=1000000) :
 Calls prog 235 #[v,.pointer (some ⟨j,0,none⟩)] w λe w'=>e=.returned (.tuple #[])/\Mq Y base 44 26 cd (o++[ar x]) G j w w':=by
 obtain⟨vf,ve,rfl,U,O⟩:=h
 obtain⟨Af,cf,rfl⟩:=cA U
 obtain⟨Z,ce,rfl⟩:=av O
 have J:=ai.new w 126 (aE x (.slice Af x.f.length cf) (.slice Z x.es.length ce))
 have D:=J.aU
 obtain⟨B,F,rfl⟩:=y.slice
 have H:=hb.ay D
 have M:=y.st D
 have bT:=y.blk
 clear U O hb y
 go_enter func235,ntmps235
 go_upto_region 1 with (fail)
 generalize w.alloc _=R at *
 have hz1:=D.size
 have qx:=J.cell
 have qo:=H.cell
 have E:=K.new R (.cells (dt (ar x)) 26)
 have L:=M.st E
 have Q:=eD.new (S:=cd) (e:=26) (x:=ar x) (v:=.agg (dt (ar x))) (w:=R) (N:=λk=>Y k∨(Value.slice B o.length F).ownBlock=some k) (λW u=>rfl) 0 (eV _)
 go_wp2_with (at_builtin;refine jN rfl _ _ 44 rfl _ 3 24 wU rfl rfl L _ rfl (ar x) ?p1 ?p2 ?p3 ?_)
 case p1=>exact Q.less λk hk=>hk
 case p2=>omega
 case p3=>exact bn hbase (bn hz1 E.size)
 intro t w9 A I cY aY
 obtain⟨V,Ka⟩:∃V,Hid (V=o++[ar x]):=⟨_,ae rfl⟩
 rw[<- Ka.aa]at A
 have T:=H.ay E
 have C:=T.grown I aA
 have q9:=C.cell
 have z9:=C.frozen
 have HU:=ae ((ag.aT (D.tr E) _).tr ((ag.eU (X:=λk=>k=j∨(Value.slice B o.length F).ownBlock=some k) I λk e=>.inr e).tr (ag.bM (X:=λk=>k=j∨(Value.slice B o.length F).ownBlock=some k) (.inl rfl) 0 t)))
 have HB:Hid (ai (w9.setCell ⟨j,0,none⟩ t) j 44 #[t]):=ae (C.aQ 0 t)
 have zB:=ae (A.to (X:=λk=>k=j) (ag.bM (X:=λk=>k=j) rfl 0 t) (λk hk=>Qz) (λk hk e=>aA) λk _ hk=>.inl hk)
 have p8:Hid (∀k,t.ownBlock=some k->(Value.slice B o.length F).ownBlock=some k∨w.heap.size<=k):=ae λk hk=>by
  grind
 obtain⟨A9,c9,rfl⟩:=A.slice
 clear A I cY aY T C qx qo M L H J Q
 go_wp2
 go_end0
 exact⟨rfl,_,HB.aa,W6,p8.aa,HU.aa⟩
theorem av9 s op:∀(l:List lN) (o:List aS),o.length<=16->(l.foldl (lT s op) o).length<=16:=by
 intro l
 induction l with
 | nil=>intro o h;exact h
 | cons x l j =>
  grind [lT]
theorem auf s op:∀(l:List lN) (o:List aS),16<=o.length->l.foldl (lT s op) o=o:=by
 intro l
 induction l with
 | nil=>intro o h;rfl
 | cons x l j =>
  grind [lT]
theorem ass s op k vl vp I vo vk w(hs:nQ s (.agg (cP s vl vp I)) w)(Q:aq aV op vo w)(hk:mj k vk w)
 (gU:s.list.length<=1000000/\s.prom.length<=1000000) (hlo:op.length<=1000000) (hv:k.cU.length<=1000000) :
 Calls prog 165 #[.agg (cP s vl vp I),vo,vk] w λe w'=>∃v',e=.returned v'/\aB (λk=>k<w.heap.size) w.heap.size 26 cd (uA s op k) v' w'/\K w w':=by
 have vE:=ae λW (k:K w W)=>LN hs k
 have CH:=ae λW (k:K w W) a=>DI s a (.agg (cP s vl vp I)) W (vE.aa W k) gU.1
 have CP:=ae λW (k:K w W) a=>Ky s a (.agg (cP s vl vp I)) W (vE.aa W k) gU.2
 have CO:=ae λW (k:K w W) a=>ab8 op a vo W (bo Q k) hlo
 have HE:Hid (uA s op k=k.cU.foldl (lT s op) []):=ae rfl
 have wG:=ae λj=>av9 s op (k.cU.take j) [] aj
 have Yg:=ae λj (h:16<=((k.cU.take j).foldl (lT s op) []).length)=>auf s op (k.cU.drop j) _ h
 obtain⟨JG,JH,Z9,e,h1,h2,h3⟩:=hs
 simp at e
 obtain⟨rfl,rfl,rfl⟩:=e
 obtain⟨Al,cl,rfl⟩:=av h1
 obtain⟨Ap,cp,rfl⟩:=av h2
 obtain⟨Ab,cb,rfl⟩:=av h3
 obtain⟨Ao,co,rfl⟩:=av Q
 obtain⟨v1,v2,v3,v4,v5,v6,rfl,g1,g2,g3,g4,g5,g6⟩:=hk
 obtain⟨A1,c1,rfl,hl,-⟩:=g1
 obtain⟨A2,c2,rfl⟩:=av g2
 obtain⟨A3,c3,rfl⟩:=av g3
 obtain⟨A4,c4,rfl⟩:=av g4
 obtain⟨A5,c5,rfl⟩:=av g5
 obtain⟨A6,c6,rfl⟩:=av g6
 generalize uA s op k=R at *
 generalize Hn:cP s (.slice Al s.list.length cl) (.slice Ap s.prom.length cp) (.slice Ab s.ab.length cb)=G at *
 generalize hma:lA k (.slice A1 k.cU.length c1) (.slice A2 k.asks.length c2) (.slice A3 k.entries.length c3) (.slice A4 k.fe.length c4) (.slice A5 k.dQ.length c5) (.slice A6 k.ends.length c6)=ma at *
 have B:=K.lW w (.cells G 46) (.cells ma 156)
 have hb:=(ai.new w 46 G).alloc (.cells ma 156)
 have F:=ai.new (w.alloc (.cells G 46)) 156 ma
 have hz:(w.alloc (.cells G 46)).heap.size=w.heap.size+1:=aj
 rw[hz]at F
 subst Hn hma
 clear h1 h2 h3 Q g2 g3 g4 g5 g6 vE hz
 go_enter func165,ntmps165
 go_wp2
 go_step3
 generalize World.alloc (World.alloc w _) _=D at *
 generalize Z:w.heap.size=lo at hb F⊢
 have lQ:=ae Z
 have hz1:lo<=D.heap.size:=by rw[<- Z];exact B.size
 clear Z
 have X:=K.rf D
 have qb:=hb.cells
 have qc:=F.cells D X
 have kN:=aB.nil (λk=>k<lo) D.heap.size 26 cd D
 clear hb F
 go_wp2_with fail
 go_step3
 go_wp2_with fail
 go_loopw [7,9,13] (fun o _ i W=>∃j:Nat,j<=k.cU.length/\i=.int .i64 j/\aB (fun k=>k<lo) D.heap.size 26 cd ((k.cU.take j).foldl (lT s op) []) o W/\K D W) (fun _ _ i _=>k.cU.length-(intOf i).toNat)
 case atStart=>exact⟨0,af,rfl,kN,X⟩
 case round =>
  clear kN X;obtain⟨j,hj,rfl,E,kr⟩:=hrel;have hpl:=wG.aa j;by_cases hlt:j<k.cU.length
  ·have aP:(j:Int)<k.cU.length:=af;obtain⟨b1,o1,cs1,rfl,eS,hr1,d0,dd⟩:=eB hl j hlt ax;have HF:=ae (fold_succ (lT s op) k.cU [] j hlt);have O:=ae (Yg.aa j);have Hq:=ae (show k.cU.foldl (lT s op) []=(k.cU.drop j).foldl (lT s op) ((k.cU.take j).foldl (lT s op) []) by rw[<- List.foldl_append,List.take_append_drop]);generalize k.cU[j]=x at *;generalize (k.cU.take j).foldl (lT s op) []=P at *;obtain⟨A,ic⟩:∃A,Hid (A=(k.cU.take (j+1)).foldl (lT s op) []):=⟨_,ae rfl⟩;replace HF:Hid (A=lT s op P x):=ae (ic.aa.trans HF.aa);obtain rfl:=hr1 w (K.rf w);have Y:=B.tr kr;obtain⟨BB,zL,rfl⟩:=E.slice;have q9:∀i,i<4->wr.cell? ⟨b1,o1+j*4+i,none⟩=(ib x)[i]?:=λi hi=>(dd wr Y i hi).trans Array.getElem?_toList
   have q0:wr.cell? ⟨b1,o1+j*4,none⟩=some (.int .i64 x.id.1):=d0 wr Y;have hx:=ai.new wr 225 (ib x);have k3:=hx.aU;clear dd d0 eS hr1;go_upto_region 5 with (fail);have H:=E.st k3;have L:=kr.tr k3;generalize wr.alloc _=w3 at *;clear q9 q0 E k3 kr Y;by_cases V:16<=P.length
   ·have Gt:(16:Int)<=(P.length:Int):=af;have U:Hid (R=P):=ae (by rw[HE.aa,Hq.aa,O.aa V]);have kF:=B.tr L;clear V HF ic O Hq hpl;go_wp2;rw[iq];go_ret;exact⟨_,rfl,by rw[U.aa,lQ.aa];exact H.low hz1,kF⟩
   have Gt:¬(16:Int)<=(P.length:Int):=af;have y:=hx.cell;have C:=λi=>qb w3 L i
   clear V O Hq;have C3:=ae (Fw P x.id _ w3 H.aq af);go_wp2_with fail
   apply cG C3.aa L;intro w4 t gG;have cI:=H.st t;have b5:=hx.ay t;clear H t y C C3;have y:=b5.cell;have C:=λi=>qb w4 gG i
   cases hb0:dJ P x.id;rotate_left
   ·have HP:Hid (A=P):=ae (by rw[HF.aa];unfold lT;rw[if_neg (by omega),if_pos (by simp[hb0])]);clear y C hb0;exact Lz
   go_wp2_with fail
   apply cG (CH.aa w4 (B.tr gG) x.id) gG;intro w5 t lM;have cK:=cI.st t;have dY:=b5.ay t;clear cI t y C;have y:=dY.cell;have C:=λi=>qb w5 lM i
   cases aN:bV s.list x.id;rotate_left
   ·have HP:Hid (A=P):=ae (by rw[HF.aa];unfold lT;rw[if_neg (by omega),if_pos (by simp[hb0,aN])]);clear y C hb0 aN;exact ahL
   go_wp2_with fail
   apply cG (CP.aa w5 (B.tr lM) x.id) lM;intro w6 t T;have M:=cK.st t;have iZ:=dY.ay t;clear cK t y C;have y:=iZ.cell;cases hb2:bV s.prom x.id;rotate_left
   ·have HP:Hid (A=P):=ae (by rw[HF.aa];unfold lT;rw[if_neg (by omega),if_pos (by simp[hb0,aN,hb2])]);clear y hb0 aN hb2;go_wp2;go_roundw
    case rel=>exact⟨j+1,af,bI,by rw[<- ic.aa,HP.aa];exact M,T⟩
    case measure=>simp[intOf];omega
   go_wp2_with fail
   apply cG (CO.aa w6 (B.tr T) x.id) T;intro w7 t oF;have J:=M.st t;have po:=iZ.ay t;clear M t y;have y:=po.cell;cases bG:bV op x.id;rotate_left
   ·have HP:Hid (A=P):=ae axu;clear y hb0 aN hb2 bG;go_wp2;go_roundw
    case rel=>exact⟨j+1,af,bI,by rw[<- ic.aa,HP.aa];exact J,oF⟩
    case measure=>simp[intOf];omega
   have HP:Hid (A=P++[x.id]):=ae axv;clear hb0 aN hb2 bG HF;have hr:=eD.new (S:=cd) (e:=26) (x:=x.id) (v:=.agg (dt x.id)) (w:=w7) (N:=λk=>k<lo∨(Value.slice BB P.length zL).ownBlock=some k) (λW u=>rfl) 0 (eV _);have kA:=K.new w7 (.cells (dt x.id) 26);have iA:=J.st kA;have qj:=oF.tr kA;have rr:=qj.size;clear J;go_wp2_with (at_builtin;refine jN rfl _ _ 44 rfl _ 3 24 wU rfl rfl iA _ rfl x.id ?p1 ?p2 ?p3 ?_)
   case p1=>exact hr
   case p2=>omega
   case p3=>exact rr
   exact W7
  ·have aP:¬(j:Int)<k.cU.length:=af;have U:Hid (R=(k.cU.take j).foldl (lT s op) []):=ae Xa;have kF:=B.tr kr;generalize (k.cU.take j).foldl (lT s op) []=P at *;obtain⟨BB,zL,rfl⟩:=E.slice;go_wp2;go_ret;exact⟨_,rfl,by rw[U.aa,lQ.aa];exact E.low hz1,kF⟩
theorem ast l v q(f:Nat) cs w(h:aq oG l v w)(S:l.length<=1000000)(T:∀args W,(callFunc f args).run prog W=.ok (.enter f args) W)
 (E:∀W,K w W->∀x∈l,Calls prog f (#[.agg (ib x)]++cs) W λe W'=>e=.returned (.bool (q x))/\K W W') :
 Calls prog 251 #[v,.func (.func f) #[] cs] w λe w'=>∃i:Int,e=.returned (.int .i64 i)/\K w w'/\decide (0<=i)=l.any q:=by
 have C:=K.rf w
 obtain⟨A,c,rfl,h,-⟩:=h
 have I:=ae E
 clear E
 go_enter func251,ntmps251
 go_wp2_with fail
 go_loopw [5,8] (fun _ i wr=>∃k:Nat,k<=l.length/\i=.int .i64 (k:Int)/\Hid ((l.take k).any q=false)/\K w wr) (fun _ i _=>l.length-(intOf i).toNat)
 case atStart=>exact⟨0,af,rfl,ae aj,C⟩
 case round =>
  clear C;obtain⟨k,hk,rfl,hall,kr⟩:=hrel;by_cases y:k<l.length
  ·have J:(k:Int)<(l.length:Int):=af;obtain⟨F,D,U,rfl,N,B,u,d⟩:=eB h k y ax;have HB:=ae (yr q l k y);have HA:=ae (yw q l (k+1));have hm:=bZ y;generalize l[k]=t at *;obtain rfl:=B w (K.rf w);have u:∀W,K w W->W.cell? ⟨F,D+k*4,none⟩=some (.int .i64 t.id.1):=u;have d:∀W,K w W->∀i,i<4->W.cell? ⟨F,D+k*4+i,none⟩=(ib t)[i]?:=λW j L=>λM=>(d W j L M).trans Array.getElem?_toList
   have G:=ae (I.aa wr kr t hm);have H:=u wr kr;have O:=d wr kr;clear B N hm d u;go_wp2_with fail
   apply cG G.aa kr;intro Q R kW;clear H O G;exact WV
  ·have J:¬(k:Int)<(l.length:Int):=af;exact ahM
theorem aqV l v q(f:Nat) cs w(h:aq oG l v w)(B:l.length<=1000000)(C:∀args W,(callFunc f args).run prog W=.ok (.enter f args) W)
 (u:∀W,K w W->∀x∈l,Calls prog f (#[.agg (ib x)]++cs) W λe W'=>e=.returned (.bool (q x))/\K W W') :
 Calls prog 154 #[v,.func (.func f) #[] cs] w λe w'=>e=.returned (.bool (l.any q))/\K w w':=by
 have t:=ae (ast l v q f cs w h B C u)
 obtain⟨A,c,rfl⟩:=av h
 clear h u
 generalize l.any q=R at *
 go_enter func154,ntmps154
 go_wp2_with fail
 refine t.aa.mono ?_
 rintro e D⟨i,rfl,y,j⟩
 have HR:=ae j
 clear t j
 go_wp2
 go_ret
 exact⟨WX,y⟩
theorem awa(x:lN) a:decide (x.id=a)=(x.id.1==a.1&&(x.id.2.1==a.2.1&&x.id.2.2==a.2.2)):=by
 grind
theorem ap5 x a g w(hg:ai w g 26 #[.int .i64 a.1,.int .u64 a.2.1,.int .u64 a.2.2]) :
 Calls prog 155 #[.agg (ib x),.pointer (some ⟨g,0,none⟩)] w λe w'=>e=.returned (.bool (decide (x.id=a)))/\K w w':=by
 have j:=ae (awa x a)
 have q:=hg.cells
 have D:=λo=>(K.rf w).al o
 obtain⟨t,C,u⟩:=a
 obtain⟨⟨A,B,E⟩,y⟩:=x
 simp only at q j⊢
 generalize decide ((A,B,E)=(t,C,u))=R at *
 clear hg
 go_enter func155,ntmps155
 go_wp2
 all_goals
  go_ret
  refine⟨?_,(K.rf w).al _⟩
  rw[j.aa]
  show Ending.returned (.bool _)=Ending.returned (.bool _)
  clear q D
  first|(simp_all;done)|(simp_all;omega)|(congr 2;rw[Bool.eq_iff_iff];simp_all;omega)
theorem axw:(prog.info? 225).map (λi=>(i.zero,i.size,i.bytes))=some (some (.agg #[.int .i64 0,.int .u64 0,.int .u64 0,.bool false]),4,32):=by rfl
theorem akA:fY prog 154 225 (.agg #[.int .i64 0,.int .u64 0,.int .u64 0,.bool false]) 4 32:=⟨underlying154,axw,rfl,ax⟩
theorem asu kids:∀(l:List aK) (o:List lN),o.length<=16->(l.foldl (rF kids) o).length<=16:=by
 intro l
 induction l with
 | nil=>intro o h;exact h
 | cons x l j =>
  grind [rF]
theorem asv:∀(l:List aS) (o:List lN),o.length<=16->(l.foldl mP o).length<=16:=by
 intro l
 induction l with
 | nil=>intro o h;exact h
 | cons x l j =>
  grind [mP]
theorem aqW:∀(l:List aS) (o:List lN),16<=o.length->l.foldl mP o=o:=by
 intro l
 induction l with
 | nil=>intro o h;rfl
 | cons x l j =>
  grind [mP]
theorem aqX prom fD kids vp vf vk w(hp:aq aV prom vp w)(hr:aq cd fD vf w)(hk:aq yi kids vk w)
 (hlp:prom.length<=1000000) (sU:fD.length<=1000000) (hlk:kids.length<=1000000) (hv:∀m∈kids,m.cU.length<=1000000) :
 Calls prog 91 #[vp,vf,vk] w λe w'=>∃v',e=.returned v'/\aB (λk=>k<w.heap.size) w.heap.size 225 oG (Ja prom fD kids) v' w'/\K w w':=by
 have CS:=ae λW (k:K w W) a=>ada kids a vk W (bo hk k) hlk hv
 have HE:Hid (Ja prom fD kids=fD.foldl mP (prom.foldl (rF kids) [])):=ae rfl
 have wG:=ae λj=>asu kids (prom.take j) [] aj
 have azp:=ae λj o ho=>asv (fD.take j) o ho
 have Yg:=ae λj o (h:16<=((fD.take j).foldl mP o).length)=>aqW (fD.drop j) _ h
 obtain⟨Ap,cp,rfl,hl,-⟩:=hp
 obtain⟨Ar,cr,rfl,ew,-⟩:=hr
 obtain⟨Ak,ck,rfl⟩:=av hk
 generalize Ja prom fD kids=R at *
 have kk:=K.rf w
 have kN:=aB.nil (λk=>k<w.heap.size) w.heap.size 225 oG w
 clear hk hv
 go_enter func91,ntmps91
 go_wp2
 go_step3
 go_wp2_with fail
 go_loopw [7,9,10,15] (fun o _ _ i W=>∃j:Nat,j<=prom.length/\i=.int .i64 j/\aB (fun k=>k<w.heap.size) w.heap.size 225 oG ((prom.take j).foldl (rF kids) []) o W/\K w W) (fun _ _ _ i _=>prom.length-(intOf i).toNat)
 case atStart=>exact⟨0,af,rfl,kN,kk⟩
 case round =>
  clear kN kk;obtain⟨j,hj,rfl,A,kr⟩:=hrel;have hpl:=wG.aa j;by_cases H:j<prom.length
  ·have aP:(j:Int)<prom.length:=af;obtain⟨Q,off,cs1,rfl,eS,hrl,O,d⟩:=eB hl j H ax;have t:=ae (fold_succ (rF kids) prom [] j H);generalize prom[j]=x at *;generalize (prom.take j).foldl (rF kids) []=P at *;obtain⟨y,ic⟩:∃y,Hid (y=(prom.take (j+1)).foldl (rF kids) []):=⟨_,ae rfl⟩;replace t:Hid (y=rF kids P x):=ae (ic.aa.trans t.aa);obtain⟨vf,ve,rfl,hf,he⟩:=hrl w (K.rf w);have Z:∀i,i<8->wr.cell? ⟨Q,off+j*8+i,none⟩=(aE x vf ve)[i]?:=λi hi=>(d wr kr i hi).trans Array.getElem?_toList
   have q0:wr.cell? ⟨Q,off+j*8,none⟩=some (.int .i64 x.kind):=O wr kr;have D:=ai.new wr 126 (aE x vf ve);have G:=D.aU;obtain⟨Af,cf,rfl⟩:=cA hf;obtain⟨Ae,ce,rfl⟩:=av he;obtain⟨T,U,rfl⟩:=A.slice;clear d O hf he hrl eS;go_upto_region 5 with (fail);have F:=A.st G;have I:=kr.tr G;generalize wr.alloc _=w3 at *;clear Z q0 A G kr;have V:=D.cell;have J:=ae (CS.aa w3 I (ar x));go_wp2_with fail
   apply cG J.aa I;intro L E gG;have cI:=F.st E;have b5:=D.ay E;clear F E V J;by_cases h0:jo kids (ar x)=0
   ·have HP:Hid (y=P):=ae (by rw[t.aa];unfold rF;rw[if_neg (by simp[h0])]);have h0b:(jo kids (ar x) != 0)=false:=Ly;generalize jo kids (ar x)=z at *;clear h0;exact Lz
   have h0b:(jo kids (ar x) != 0)=true:=La;by_cases B:P.length<16;rotate_left
   ·have Gt:¬(P.length:Int)<16:=af;have HP:Hid (y=P):=ae (by rw[t.aa];unfold rF;rw[if_neg (by omega)]);generalize jo kids (ar x)=z at *;clear h0 B;exact Lz
   have Gt:(P.length:Int)<16:=af;have HP:Hid (y=P++[⟨ar x,jo kids (ar x)==1⟩]):=ae (by
    rw[t.aa];unfold rF;rw[if_pos ⟨h0,B⟩];congr 3)
   generalize jo kids (ar x)=z at *;have V:=b5.cell;clear h0 B t;have hr:=eD.new (S:=oG) (e:=225) (x:=⟨ar x,z==1⟩) (v:=.agg (ib ⟨ar x,z==1⟩)) (w:=L) (N:=λk=>k<w.heap.size∨(Value.slice T P.length U).ownBlock=some k) (λW u=>rfl) 0 (eV _);have M:=K.new L (.cells (ib ⟨ar x,z==1⟩) 225);have iA:=cI.st M;have qj:=gG.tr M;have X:=qj.size;clear cI;go_wp2_with (at_builtin;refine jN rfl _ _ 154 rfl _ 4 32 akA rfl rfl iA _ rfl ⟨ar x,z==1⟩ ?p1 ?p2 ?p3 ?_)
   case p1=>exact hr
   case p2=>omega
   case p3=>exact X
   exact W7
  ·have aP:¬(j:Int)<prom.length:=af;have HR:Hid (R=fD.foldl mP ((prom.take j).foldl (rF kids) [])):=ae Xa;generalize (prom.take j).foldl (rF kids) []=P0 at *;have Mr:=ew;have aE4:=sU;have dU:=A;have k1:=kr;clear HE hl ew H hj wG A kr CS;obtain⟨C,rfl⟩:∃o,o=P0:=⟨_,rfl⟩;generalize wr=w1 at *;go_wp2_with fail
   go_step3;go_wp2_with fail
   go_loopw [7,12,41] (fun o _ i W=>∃j:Nat,j<=fD.length/\i=.int .i64 j/\aB (fun k=>k<w.heap.size) w.heap.size 225 oG ((fD.take j).foldl mP C) o W/\K w W) (fun _ _ i _=>fD.length-(intOf i).toNat)
   case atStart=>exact⟨0,af,rfl,dU,k1⟩
   case round =>
    clear dU;obtain⟨j,hj,rfl,A,kr⟩:=hrel;have hp2:=azp.aa j _ hpl;by_cases H:j<fD.length
    ·have aP:(j:Int)<fD.length:=af;obtain⟨Q,o1,cs1,rfl,eS,hr1,O,dd⟩:=eB Mr j H ax;have t:=ae (fold_succ mP fD C j H);have Y:=ae (Yg.aa j C);have Hq:=ae (show fD.foldl mP C=(fD.drop j).foldl mP ((fD.take j).foldl mP C) by rw[<- List.foldl_append,List.take_append_drop]);generalize fD[j]=x at *;generalize (fD.take j).foldl mP C=P at *;obtain⟨y,ic⟩:∃y,Hid (y=(fD.take (j+1)).foldl mP C):=⟨_,ae rfl⟩;replace t:Hid (y=mP P x):=ae (ic.aa.trans t.aa);obtain rfl:=hr1 wr kr;obtain⟨T,U,rfl⟩:=A.slice;have Z:∀i,i<3->wr.cell? ⟨Q,o1+j*3+i,none⟩=(dt x)[i]?:=λi hi=>(dd wr kr i hi).trans Array.getElem?_toList
     have q0:wr.cell? ⟨Q,o1+j*3,none⟩=some (.int .i64 x.1):=O wr kr;have D:=ai.new wr 26 (dt x);have G:=D.aU;clear dd O eS hr1;go_upto_region 12 with (fail);have F:=A.st G;have I:=kr.tr G;generalize wr.alloc _=w3 at *;generalize wr.heap.size=gx at D⊢;clear Z q0 A G kr;by_cases B:16<=P.length
     ·have Gt:(16:Int)<=(P.length:Int):=af;have iQ:Hid (R=P):=ae (by rw[HR.aa,Hq.aa,Y.aa B]);have kF:=I;clear B t ic Y Hq hp2 hpl;go_wp2;try rw[iq]
      go_ret;exact⟨_,rfl,by rw[iQ.aa];exact F,kF⟩
     have Gt:¬(16:Int)<=(P.length:Int):=af;clear Y Hq;have J:=ae (aqV P _ (λv=>decide (v.id=x)) 155 #[.pointer (some ⟨gx,0,none⟩)] w3 F.aq af (λ_ _=>cV) λW k v _=>ap5 v x gx W (D.ay k));go_wp2_with fail
     apply cG J.aa I;intro L E gG;have cI:=F.st E;have b5:=D.ay E;clear F E J;cases hb0:P.any λv=>decide (v.id=x)
     rotate_left
     ·have HP:Hid (y=P):=ae (by rw[t.aa];unfold mP;rw[if_neg B,if_pos hb0]);clear hb0 B;exact Lz
     have HP:Hid (y=P++[⟨x,false⟩]):=ae (by rw[t.aa];unfold mP;rw[if_neg B,if_neg (by simp[hb0])]);have V:=b5.cell;clear hb0 t B;have hr:=eD.new (S:=oG) (e:=225) (x:=⟨x,false⟩) (v:=.agg (ib ⟨x,false⟩)) (w:=L) (N:=λk=>k<w.heap.size∨(Value.slice T P.length U).ownBlock=some k) (λW u=>rfl) 0 (eV _);have M:=K.new L (.cells (ib ⟨x,false⟩) 225);have iA:=cI.st M;have qj:=gG.tr M;have iz:=qj;have X:=iz.size;clear cI;go_wp2_with (at_builtin;refine jN rfl _ _ 154 rfl _ 4 32 akA rfl rfl iA _ rfl ⟨x,false⟩ ?p1 ?p2 ?p3 ?_)
     case p1=>exact hr
     case p2=>omega
     case p3=>exact X
     intro v9 w9 bq bC cY aY;have vF:=iz.trans aY;exact ahN
    ·have aP:¬(j:Int)<fD.length:=af;have iQ:Hid (R=(fD.take j).foldl mP C):=ae (by rw[HR.aa,gQ (by omega)]);have kF:=kr;generalize (fD.take j).foldl mP C=P at *;obtain⟨T,U,rfl⟩:=A.slice;go_wp2;try rw[iq]
     go_ret;exact⟨_,rfl,by rw[iQ.aa];exact A,kF⟩
theorem adT s:∀(l:List aK) (p:List aK×List aK),(l.foldl (pJ s) p).1.length<=max p.1.length 4/\(l.foldl (pJ s) p).2.length<=p.2.length+l.length:=by
 intro l
 induction l with
 | nil=>intro p;simp;omega
 | cons x l j =>
  grind [pJ]
theorem aqY s op asks vl vp vb vo va w(hs:nQ s (.agg (cP s vl vp vb)) w)(G:aq aV op vo w)(ha:aq aV asks va w)
 (sc:∀x∈op,eJ x) (Hn:∀x∈asks,eJ x) (gU:s.list.length<=1000000/\s.ab.length<=1000000) (hlo:op.length<=1000000) (Kb:asks.length<=500000) :
 Calls prog 140 #[.agg (cP s vl vp vb),vo,va] w λe w'=>∃v1 X,e=.returned (.tuple #[v1,X])/\lY w.heap.size w.heap.size 126 aV (oR s op asks).1 v1 126 aV (oR s op asks).2 X w'/\K w w':=by
 have vE:=ae λW (k:K w W)=>LN hs k
 have CH:=ae λW (k:K w W) a=>DI s a (.agg (cP s vl vp vb)) W (vE.aa W k) gU.1
 have CA:=ae λW (k:K w W) a=>Io s a (.agg (cP s vl vp vb)) W (vE.aa W k) gU.2
 have CO:=ae λW (k:K w W)=>Uk op vo W (bo G k) sc af
 have HAd:Hid (oR s op asks=asks.foldl (pJ s) (op,[])):=ae rfl
 have wG:=ae λj=>adT s (asks.take j) (op,[])
 have HS:=ae Hn
 obtain⟨JG,JH,Z9,e,h1,Z,h3⟩:=hs
 simp at e
 obtain⟨rfl,rfl,rfl⟩:=e
 obtain⟨Al,cl,rfl⟩:=av h1
 obtain⟨Ap,cp,rfl⟩:=av Z
 obtain⟨Ab,cb,rfl⟩:=av h3
 obtain⟨Aa,ca,rfl,hl,-⟩:=ha
 obtain⟨Ao,co,rfl⟩:=av G
 generalize oR s op asks=R at *
 have hb:=ai.new w 46 (cP s (.slice Al s.list.length cl) (.slice Ap s.prom.length cp) (.slice Ab s.ab.length cb))
 have F:=hb.aU
 have hlist:=s.list.length
 clear h1 Z h3 G vE Hn sc hlist
 go_enter func140,ntmps140
 go_wp2
 go_step3
 generalize w.alloc _=Y at *
 obtain⟨lo,Ry⟩:∃lo,Hid (lo=w.heap.size):=⟨_,ae rfl⟩
 generalize jM:w.heap.size=ga at hb⊢
 have lQ:=ae jM
 clear jM
 have qb:=hb.cells
 clear hb
 go_wp2_with fail
 apply bS (CO.aa Y F)
 rintro X w2⟨cH,k2⟩
 have B:lY lo Y.heap.size 126 aV op X 126 aV ([]:List aK) (.slice none 0 0) w2:=lY.Yy (cH.less λk hk=>by rw[Ry.aa]at hk;exact bz hk F.size) (by rw[Ry.aa];exact F.size)
 have N:=qb
 clear cH CO qb
 obtain⟨A2,c2,rfl⟩:=B.a.slice
 have kk:=k2
 go_wp2_with fail
 go_step3
 go_wp2_with fail
 go_loopw [8,9,11,16] (fun o1 o2 _ i W=>∃j:Nat,j<=asks.length/\i=.int .i64 j/\lY lo Y.heap.size 126 aV ((asks.take j).foldl (pJ s) (op,[])).1 o1 126 aV ((asks.take j).foldl (pJ s) (op,[])).2 o2 W/\K Y W) (fun _ _ _ i _=>asks.length-(intOf i).toNat)
 case atStart=>exact⟨0,af,rfl,fP,kk⟩
 case round =>
  clear B kk;obtain⟨j,hj,rfl,B,kr⟩:=hrel;by_cases hlt:j<asks.length
  ·have aP:(j:Int)<asks.length:=af;obtain⟨b1,off,cs,rfl,eS,hrl,d0,d⟩:=eB hl j hlt ax;have H:=ae (fold_succ (pJ s) asks (op,[]) j hlt);have qi:=HS.aa _ (bZ hlt);have hpl:=wG.aa j;generalize asks[j]=x at *;generalize (asks.take j).foldl (pJ s) (op,[])=P at *;obtain⟨E,ic⟩:∃E,Hid (E=(asks.take (j+1)).foldl (pJ s) (op,[])):=⟨_,ae rfl⟩;replace H:Hid (E=pJ s P x):=ae (ic.aa.trans H.aa);have Jr:P.1.length<=1000000:=af;have Ms:P.2.length<=500000:=LA;obtain⟨t,D⟩:=P;simp only at B Jr Ms;obtain⟨vf,ve,rfl,hf,he⟩:=hrl w (K.rf w);have pF:=F.tr kr;have HE:Hid (∀W,K w W->dm x (.agg (aE x vf ve)) W):=ae λW k=>⟨_,_,rfl,eO _ _ _ _ hf k,bo he k⟩
   have q9:∀i,i<8->wr.cell? ⟨b1,off+j*8+i,none⟩=(aE x vf ve)[i]?:=λi hi=>(d wr pF i hi).trans Array.getElem?_toList
   have q0:wr.cell? ⟨b1,off+j*8,none⟩=some (.int .i64 x.kind):=d0 wr pF;have hx:=ai.new wr 126 (aE x vf ve);have k3:=hx.aU;obtain⟨Af,cf,rfl⟩:=cA hf;obtain⟨Ae,ce,rfl⟩:=av he;obtain⟨A1,c1,rfl⟩:=B.a.slice;obtain⟨A3,c3,rfl⟩:=B.b.slice;clear d d0 hf he hrl eS hpl;go_upto_region 6 with (fail);have Ff:=B.st k3;have cJ:=kr.tr k3;generalize wr.alloc _=w3 at *;clear q9 q0 B;have y:=hx.cell;have C:=λi=>N w3 cJ i
   go_wp2_with fail
   apply cG (CH.aa w3 (F.tr cJ) (ar x)) cJ;intro w4 u gG;have V:=Ff.st u;have b5:=hx.ay u;clear Ff u y C;have y:=b5.cell;have C:=λi=>N w4 gG i
   cases hb0:bV s.list (ar x);rotate_left
   ·have HP:Hid (E=(t,D)):=ae (by rw[H.aa];unfold pJ;rw[if_pos (by simp[hb0])]);have lC:=ae V;clear V y C hb0;exact ahO
   go_wp2_with fail
   apply cG (CA.aa w4 (F.tr gG) (ar x)) gG;intro w5 u lM;have T:=V.st u;have dY:=b5.ay u;clear V u y C;have y:=dY.cell;have C:=λi=>N w5 lM i
   cases aN:dJ s.ab (ar x);rotate_left
   ·have HP:Hid (E=(t,D)):=ae (by rw[H.aa];unfold pJ;rw[if_pos (by simp[hb0,aN])]);have lC:=ae T;clear T y C hb0 aN;exact ahP
   go_wp2_with fail
   apply cG (acD t (ar x) _ w5 T.a.aq Jr) lM;intro w6 u ni;have U:=T.st u;have iZ:=dY.ay u;clear T u y C;have y:=iZ.cell;have C:=λi=>N w6 ni i
   cases hb2:bV t (ar x);rotate_left
   ·have HP:Hid (E=(t,D)):=ae (by rw[H.aa];unfold pJ;rw[if_pos (by simp[hb0,aN,hb2])]);have lC:=ae U;clear U y C hb0 aN hb2;exact ahQ
   go_wp2_with fail
   apply cG (acD D (ar x) _ w6 U.b.aq af) ni;intro w7 u oF;have A:=U.st u;have po:=iZ.ay u;clear U u y C;have y:=po.cell;have C:=λi=>N w7 oF i
   cases bG:bV D (ar x);rotate_left
   ·have HP:Hid (E=(t,D)):=ae (by rw[H.aa];unfold pJ;rw[if_pos (by simp[hb0,aN,hb2,bG])]);have lC:=ae A;clear A y C hb0 aN hb2 bG;exact ahR
   have L:Hid (E=if x.kind≠1 then (t,D++[x])else if t.length<4 then (t++[x],D)else (t,D)):=ae (by rw[H.aa];unfold pJ;rw[if_neg (by simp[hb0,aN,hb2,bG])]);clear C hb0 aN hb2 bG;by_cases hk:x.kind≠1
   ·have hk2:(x.kind != 1)=true:=tk;have HP:Hid (E=(t,D++[x])):=ae (by rw[L.aa,if_pos hk]);clear L;go_wp2_with fail
    apply bS (OX x _ w7 (HE.aa _ (F.tr oF)) qi);rintro v8 w8⟨G,J⟩;obtain⟨M,O,rfl,Q⟩:=B6 G;have s8:=A.a.blk;have fq:=A.b.blk;have Mt:=oF.size;have jX:=A.lo;have qj:=oF.tr J;have hr:=eD.new (S:=aV) (e:=126) (v:=.agg (aE x M O)) Q 0 (eV _);have I:=K.new w8 (.cells (aE x M O) 126);have lC:=A.st (J.tr I);have iz:=qj.tr I;have nu:=bn J.size I.size;clear A Q G y;go_wp2_with (at_builtin;refine jN rfl _ _ 43 rfl _ 8 96 pw rfl rfl lC.b _ rfl x ?p1 ?p2 ?p3 ?_)
    case p1 =>
     exact hr.less λk hk=>by
      rcases hk with (hk|hk)|hk
      ·omega
      ·have:=s8 k hk;omega
      ·have:=fq k hk;omega
    case p2=>omega
    case p3=>exact bn Mt nu
    intro v9 w9 bq bC cY aY;have Mu:=(lC.swap.push bq bC rE).swap;exact ahS
   have hk2:(x.kind != 1)=false:=tk;by_cases kL:t.length<4
   ·have CY:(t.length:Int)<4:=af;have HP:Hid (E=(t++[x],D)):=ae (by rw[L.aa,if_neg (by simpa using hk),if_pos kL]);clear L;go_wp2_with fail
    apply bS (OX x _ w7 (HE.aa _ (F.tr oF)) qi);rintro v8 w8⟨G,J⟩;obtain⟨M,O,rfl,Q⟩:=B6 G;have s8:=A.a.blk;have fq:=A.b.blk;have Mt:=oF.size;have jX:=A.lo;have qj:=oF.tr J;have hr:=eD.new (S:=aV) (e:=126) (v:=.agg (aE x M O)) Q 0 (eV _);have I:=K.new w8 (.cells (aE x M O) 126);have lC:=A.st (J.tr I);have iz:=qj.tr I;have nu:=bn J.size I.size;clear A Q G y;exact ahT
   have HP:Hid (E=(t,D)):=ae (by rw[L.aa,if_neg (by simpa using hk),if_neg kL]);have CY:¬(t.length:Int)<4:=af;have lC:=ae A;clear L A;exact ahR
  ·have aP:¬(j:Int)<asks.length:=af;obtain rfl:j=asks.length:=af;rw[nC]at B;have HT:=ae B;have kF:=F.tr kr;obtain⟨A1,c1,h1⟩:=B.a.slice;obtain⟨A3,c3,Z⟩:=B.b.slice;subst h1 Z;clear B;go_wp2;go_ret2;exact⟨_,_,rfl,by rw[HAd.aa,<- Ry.aa];exact HT.aa.low (by rw[Ry.aa];exact F.size) (aD _),kF⟩
def Jc(s:dA)(a:aS):Bool:=bV s.list a||bV s.prom a||dJ s.ab a
theorem aqZ s a vl vp D g w(M:nQ s (.agg (cP s vl vp D)) w)(hg:ai w g 46 (cP s vl vp D))(F:s.list.length<=1000000/\s.prom.length<=1000000/\s.ab.length<=1000000) :
 Calls prog 306 #[cN a,.pointer (some ⟨g,0,none⟩)] w λe w'=>e=.returned (.bool (Jc s a))/\K w w':=by
 have J:Hid (Jc s a=(bV s.list a||bV s.prom a||dJ s.ab a)):=ae rfl
 have E:=ae λW (k:K w W)=>LN M k
 have V:=ae λW (k:K w W)=>DI s a (.agg (cP s vl vp D)) W (E.aa W k) F.1
 have U:=ae λW (k:K w W)=>Ky s a (.agg (cP s vl vp D)) W (E.aa W k) F.2.1
 have T:=ae λW (k:K w W)=>Io s a (.agg (cP s vl vp D)) W (E.aa W k) F.2.2
 obtain⟨JG,JH,Z9,e,N,Q,L⟩:=M
 simp at e
 obtain⟨rfl,rfl,rfl⟩:=e
 obtain⟨Z,cl,rfl⟩:=av N
 obtain⟨Ap,X,rfl⟩:=av Q
 obtain⟨Ab,Y,rfl⟩:=av L
 have hb:=ai.new w 26 (dt a)
 have j:=hb.aU
 have O:=hg.ay j
 generalize Jc s a=R at *
 clear N Q L hg E
 go_enter func306,ntmps306
 go_upto_region 1 with (fail)
 generalize w.alloc _=I at *
 have u:=hb.cells
 have t:=O.cells
 have A:=u I (K.rf _)
 have y:=t I (K.rf _)
 clear hb O
 go_wp2_with fail
 apply aM (V.aa I j)
 intro G C
 clear A y
 cases hb0:bV s.list a
 rotate_left
 ·have HF:Hid (R=true):=ae (by rw[J.aa,hb0];simp);have kF:=j.tr C;clear u t hb0;go_wp2;exact Cd
 have A:=u G C
 have y:=t G C
 go_wp2_with fail
 apply cG (U.aa G (j.tr C)) C
 intro H k3 B
 clear A y
 cases aN:bV s.prom a
 rotate_left
 ·have HF:Hid (R=true):=ae (by rw[J.aa,aN];simp);have kF:=j.tr B;clear u t hb0 aN;go_wp2;exact Cd
 have A:=u H B
 have y:=t H B
 go_wp2_with fail
 apply aM (T.aa H (j.tr B))
 intro w4 S
 have HF:Hid (R=dJ s.ab a):=ae (by rw[J.aa,hb0,aN];rfl)
 have kF:=j.tr (B.tr S)
 clear A y u t hb0 aN
 go_wp2
 go_ret
 exact⟨D3,kF⟩
theorem acE s:∀(l:List aK) (p:List aK×List aS),(l.foldl (jS s) p).1.length<=p.1.length+l.length/\(l.foldl (jS s) p).2.length<=p.2.length+l.length:=by
 intro l
 induction l with
 | nil=>intro p;simp
 | cons x l j =>
  grind [jS]
theorem apo s l vl vp vb va w(hs:nQ s (.agg (cP s vl vp vb)) w)(ha:aq aV l va w)
 (Hn:∀x∈l,eJ x) (gU:s.list.length<=1000000/\s.prom.length<=1000000/\s.ab.length<=1000000) (Kb:l.length<=500000) :
 Calls prog 272 #[.agg (cP s vl vp vb),va] w λe w'=>∃v1 v2,e=.returned (.tuple #[v1,v2])/\lY w.heap.size w.heap.size 126 aV (oP s l).1 v1 26 cd (oP s l).2 v2 w'/\K w w':=by
 have vE:=ae hs
 have HAd:Hid (oP s l=l.foldl (jS s) ([],[])):=ae rfl
 have wG:=ae λj=>acE s (l.take j) ([],[])
 have HS:=ae Hn
 obtain⟨JG,JH,Z9,e,h1,h2,h3⟩:=hs
 simp at e
 obtain⟨rfl,rfl,rfl⟩:=e
 obtain⟨Al,cl,rfl⟩:=av h1
 obtain⟨Ap,cp,rfl⟩:=av h2
 obtain⟨Ab,cb,rfl⟩:=av h3
 obtain⟨Aa,ca,rfl,hl,-⟩:=ha
 generalize oP s l=R at *
 generalize aAf:cP s (.slice Al s.list.length cl) (.slice Ap s.prom.length cp) (.slice Ab s.ab.length cb)=sa at *
 have hb:=ai.new w 46 sa
 have I:=hb.aU
 subst aAf
 clear h1 h2 h3 Hn
 go_enter func272,ntmps272
 go_wp2
 go_step3
 generalize w.alloc _=F at *
 generalize T:w.heap.size=lo at hb⊢
 have lQ:=ae T
 have hz1:lo<=F.heap.size:=by rw[<- T];exact I.size
 clear T
 have CK:=ae λW (k:K F W) a=>aqZ s a _ _ _ lo W (LN vE.aa (I.tr k)) (hb.ay k) gU
 have qb:=hb.cells
 have kk:=K.rf F
 have A:lY lo F.heap.size 126 aV ([]:List aK) (.slice none 0 0) 26 cd ([]:List aS) (.slice none 0 0) F:=lY.Yy (aB.nil _ _ _ _ _) hz1
 clear hb
 go_wp2_with fail
 go_step3
 go_wp2_with fail
 go_loopw [6,7,10,14] (fun o1 o2 _ i W=>∃j:Nat,j<=l.length/\i=.int .i64 j/\lY lo F.heap.size 126 aV ((l.take j).foldl (jS s) ([],[])).1 o1 26 cd ((l.take j).foldl (jS s) ([],[])).2 o2 W/\K F W) (fun _ _ _ i _=>l.length-(intOf i).toNat)
 case atStart=>exact⟨0,af,rfl,fP,kk⟩
 case round =>
  clear A kk;obtain⟨j,hj,rfl,A,kr⟩:=hrel;by_cases V:j<l.length
  ·have aP:(j:Int)<l.length:=af;obtain⟨b1,off,cs,rfl,eS,hrl,d0,d⟩:=eB hl j V ax;have HF:=ae (fold_succ (jS s) l ([],[]) j V);have qi:=HS.aa _ (bZ V);have hpl:=wG.aa j;generalize l[j]=x at *;generalize (l.take j).foldl (jS s) ([],[])=P at *;obtain⟨D,ic⟩:∃D,Hid (D=(l.take (j+1)).foldl (jS s) ([],[])):=⟨_,ae rfl⟩;replace HF:Hid (D=jS s P x):=ae (ic.aa.trans HF.aa);have Jr:P.1.length<=500000:=LA;have Ms:P.2.length<=500000:=LA;obtain⟨t,C⟩:=P;simp only at A Jr Ms;obtain⟨vf,O,rfl,Y,Q⟩:=hrl w (K.rf w);have pF:=I.tr kr;have HE:Hid (∀W,K w W->dm x (.agg (aE x vf O)) W):=ae λW k=>⟨_,_,rfl,eO _ _ _ _ Y k,bo Q k⟩
   have q9:∀i,i<8->wr.cell? ⟨b1,off+j*8+i,none⟩=(aE x vf O)[i]?:=λi hi=>(d wr pF i hi).trans Array.getElem?_toList
   have q0:wr.cell? ⟨b1,off+j*8,none⟩=some (.int .i64 x.kind):=d0 wr pF;have U:=ai.new wr 126 (aE x vf O);have k3:=U.aU;obtain⟨Af,cf,rfl⟩:=cA Y;obtain⟨Ae,ce,rfl⟩:=av Q;obtain⟨A1,c1,rfl⟩:=A.a.slice;obtain⟨A3,c3,rfl⟩:=A.b.slice;clear d d0 Y Q hrl eS hpl;go_upto_region 7 with (fail);have Ff:=A.st k3;have Z:=kr.tr k3;generalize wr.alloc _=w3 at *;clear q9 q0 A;have y:=U.cell;go_wp2_with fail
   apply cG (CK.aa w3 Z (ar x)) Z;intro w4 B gG;have H:=Ff.st B;have b5:=U.ay B;clear Ff B y;have y:=b5.cell;cases hb0:Jc s (ar x);rotate_left
   ·have HP:Hid (D=(t,C)):=ae axx;have lC:=ae H;clear H y hb0;exact ahO
   go_wp2_with fail
   apply cG (ab8 t (ar x) _ w4 H.a.aq af) gG;intro w5 B lM;have J:=H.st B;have dY:=b5.ay B;clear H B y;have y:=dY.cell;cases hb2:bV t (ar x);rotate_left
   ·have HP:Hid (D=(t,C)):=ae (by rw[HF.aa];unfold jS;rw[if_pos (by simp[hb2])]);have lC:=ae J;clear J y hb0 hb2;exact ahP
   go_wp2_with fail
   apply cG (Fw C (ar x) _ w5 J.b.aq af) lM;intro M B ni;have E:=J.st B;have iZ:=dY.ay B;clear J B y;have y:=iZ.cell;cases bG:dJ C (ar x);rotate_left
   ·have HP:Hid (D=(t,C)):=ae (by rw[HF.aa];unfold jS;rw[if_pos (by simp[bG])]);have lC:=ae E;clear E y hb0 hb2 bG;exact ahQ
   have L:Hid (D=if s.prom.length+t.length<6 then (t++[x],C)else (t,C++[ar x])):=ae axy;have mL:=qb M ni;have s8:=E.a.blk;have fq:=E.b.blk;have Mt:=ni.size;clear hb0 hb2 bG;by_cases h6:s.prom.length+t.length<6
   ·have h6i:(s.prom.length:Int)+t.length<6:=af;have HP:Hid (D=(t++[x],C)):=ae (by rw[L.aa,if_pos h6]);clear L h6;go_wp2_with fail
    apply bS (apS x _ M (HE.aa _ (I.tr ni)) qi);rintro v8 w8⟨ho,X⟩;obtain⟨oK,oL,rfl,ke⟩:=B6 ho;have qj:=ni.tr X;have hr:=eD.new (S:=aV) (e:=126) (v:=.agg (aE x oK oL)) ke 0 (eV _);have G:=K.new w8 (.cells (aE x oK oL) 126);have lC:=E.st (X.tr G);have iz:=qj.tr G;have nu:=bn X.size G.size;clear E ke ho y mL;exact ahT
   ·have h6i:¬(s.prom.length:Int)+t.length<6:=af;have HP:Hid (D=(t,C++[ar x])):=ae (by rw[L.aa,if_neg h6]);clear L h6;have hr:=eD.new (S:=cd) (e:=26) (x:=ar x) (v:=.agg (dt (ar x))) (w:=M) (N:=λk=>(k<lo∨(Value.slice A1 t.length c1).ownBlock=some k)∨(Value.slice A3 C.length c3).ownBlock=some k) (λW u=>rfl) 0 (eV _);have G:=K.new M (.cells (dt (ar x)) 26);have lC:=E.st G;have iz:=ni.tr G;have nu:=G.size;clear E;go_wp2_with (at_builtin;refine jN rfl _ _ 44 rfl _ 3 24 wU rfl rfl lC.b _ rfl (ar x) ?p1 ?p2 ?p3 ?_)
    case p1=>exact hr
    case p2=>omega
    case p3=>exact bn Mt nu
    intro v9 w9 bq bC cY aY;have Mu:=(lC.swap.push bq bC rE).swap;have vF:=iz.trans aY;clear hr lC bq bC cY aY y mL;exact Xb
  ·have aP:¬(j:Int)<l.length:=af;have HR:Hid (R=(l.take j).foldl (jS s) ([],[])):=ae (by rw[HAd.aa,gQ (by omega)]);have kF:=I.tr kr;generalize (l.take j).foldl (jS s) ([],[])=P at *;have HT:=ae (A.low (base':=lo) hz1 (aD _));obtain⟨A1,c1,rfl⟩:=A.a.slice;obtain⟨A3,c3,rfl⟩:=A.b.slice;clear A;go_wp2;go_ret2;exact⟨_,_,rfl,by rw[HR.aa,lQ.aa];exact HT.aa,kF⟩
theorem IC p n:(En p n).length<=p.length:=by
 grind [En,nE]
theorem axz{m v W}(h:mj m v W):yi.rel m v.cells.toList W:=by obtain⟨y,j,A,u,t,B,rfl,h⟩:=h;exact⟨y,j,A,u,t,B,rfl,h⟩
theorem Uy{M p B w}(h:bB M p B w)(F:bE B) :
 Calls prog 92 #[.pointer (some ⟨p.g,0,none⟩)] w λe w'=>∃v',e=.returned v'/\Fx M (λW=>aq yi (dy B) v' W) w'/\K w w':=by
 have H:=ae h
 have C1:=ae (Uv h F)
 have pY:(oo B).length<=16:=bn (IC _ _) (sA F.tr).2
 have Z:=ae h.low
 have q:=h.q
 have U:=ae λW (k:K w W) x=>(DG (Es (P:=prog) (kt:=3) underlying3) underlying159 (ajG W) (h.rep.st k) x).2
 have HL:Hid (dy B=(oo B).map (iX B)):=ae rfl
 generalize oo B=t at *
 generalize dy B=R at *
 obtain⟨g,gl,gd,gr,gt,vd,vr,vp,vh,vl,vq,va,vt,vf,vw,kr⟩:=p
 simp only at q U
 clear h F
 go_enter func92,ntmps92
 go_wp2_with fail
 apply bS C1.aa
 rintro v1 C⟨dU,A⟩
 obtain⟨A1,c1,e1,jX,-⟩:=dU.aq
 subst e1
 have JR:=ae jX
 clear dU jX C1
 have u:=aB.nil (λk=>M k) C.heap.size 156 yi C
 have Y:=K.rf C
 go_wp2_with fail
 go_loopw [3,5,9] (fun o _ i W=>∃j:Nat,j<=t.length/\i=.int .i64 j/\aB (fun k=>M k) C.heap.size 156 yi ((t.take j).map (iX B)) o W/\K C W) (fun _ _ i _=>t.length-(intOf i).toNat)
 case atStart=>exact⟨0,af,rfl,fP,Y⟩
 case round =>
  clear u Y;obtain⟨j,hj,rfl,u,y⟩:=hrel;by_cases hlt:j<t.length
  ·have aP:(j:Int)<t.length:=af;obtain⟨b,off,rfl,hcell⟩:=ints_at JR.aa af;have cj:=hcell wr y j hlt;have HT:Hid ((t.take (j+1)).map (iX B)=(t.take j).map (iX B)++[iX B t[j]]):=ae Wq;generalize t[j]=x at *;have D:Fx (λk=>M k∨w.heap.size<=k) (λW=>mj (iX B x) ((dh kr x).getD (.agg Dm)) W) wr:=(H.aa.bK.to (X:=λ_=>False) (N:=λk=>M k∨w.heap.size<=k) (ag.aT (A.tr y) _) (λ_ h=>h.elim) (λk hk hx=>hx.resolve_right af)).mono λW d=>d.bO.look x
   obtain⟨J,O,Q,L,E,G,T,hm⟩:=D.now;have I:=U.aa wr (A.tr y) x;rw[T]at I D;have qg:=q wr (A.tr y);simp only[encI]at I;have bT:=u.blk;have hz:=y.size;have V:=D.mono λW h=>axz h
   have hr:=eD.new (S:=yi) (e:=156) (v:=.agg (lA (iX B x) J O Q L E G)) V 0 (eV _);have bH:=u.st ((K.rf wr).al (.cells (lA (iX B x) J O Q L E G) 156));have cJ:=y.tr ((K.rf wr).al (.cells (lA (iX B x) J O Q L E G) 156));have SS:=ae Z.aa;clear u D V hm T hcell;go_wp2_with (at_builtin;refine jN rfl _ _ 164 rfl _ 8 160 TMs rfl rfl bH _ rfl (iX B x) ?p1 ?p2 ?p3 ?_)
   case p1 =>
    refine hr.less λk hk=>?_
    rcases hk with hk|hk
    ·exact .inl hk
    ·have:=(bT k hk).1;have:=A.size;exact .inr af
   case p2=>simp;omega
   case p3=>exact cJ.size
   intro v9 w9 bq bC _ aY;rw[<- List.map_take,<- HT.aa]at bq;have iz:=cJ.trans aY;clear hr bH I qg cj;exact Qu
  ·have aP:¬(j:Int)<t.length:=af;obtain rfl:j=t.length:=af;rw[nC]at u;have HF:Hid (Fx M (λW=>aq yi R _ W) wr):=ae (by rw[HL.aa];exact u.fx λk hk=>bz (Z.aa k hk) A.size);have kF:=A.tr y;clear u;go_wp2;go_ret;exact⟨_,rfl,HF.aa,kF⟩
