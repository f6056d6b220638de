/-
  The walk of norm.Implies (layer 7). Conditions: none.
-/
import Derived.Test.YtfndfpdhlbmboaaGreatMq1a
import Derived.Test.YtfndfpdhlbmboaaGreatMqz
set_option maxRecDepth 100000
set_option maxHeartbeats 16000000
set_option linter.all false
namespace Go.Proofs.YtfndfpdhlbmboaaGreat
open Go Go.RowKit _root_.Go.Proofs.Tryz
theorem aqE x y w d:(Op.equalIn (d+1+1+1) 73 (ry x) (ry y)).run prog w=.ok (decide (x=y)) w:=by
 obtain⟨a,b,c,d1,e⟩:=x
 obtain⟨B,t,u,A,j⟩:=y
 simp[go_sem,KL]
 grind
theorem apy x y w:(binOp .eql 73 (ry x) (ry y)).run prog w=.ok (.bool (decide (x=y))) w:=by have h:(Op.equal 73 (ry x) (ry y)).run prog w=.ok (decide (x=y)) w:=aqE x y w 9997;exact ahK
theorem ac9{ops rest o a w Q}(t:o.guard=none) x y(j:o.op=.binOp .eql 73 x y 73) p q(u:a.eval x=ry p)(B:a.eval y=ry q)
 (h:wpList prog ops Q rest (a.put o.dst (.bool (decide (p=q)))) w):wpList prog ops Q (o :: rest) a w:=by
 refine wpList_plain t λK A=>?_
 have C:=apy p q w
 have hg:(eqGuard BinOp.eql 73 x y (ry p) (ry q)).run prog w=.ok () w:=by simp[eqGuard,go_sem]
 unfold Oper.wp execOp
 simp only[j,Sem.run_bind,Result.andThen_ok,u,B,hg,C,Sem.run_pure]
 exact A _ _ h
theorem aoP a b w:Calls prog 339 #[ry a,ry b] w λe w'=>e=.returned (.bool (qE a b))/\K w w':=by
 have C:Hid (qE a b=if a.1≠b.1∨Du a.2.1=false∨Du b.2.1=false then false else if a=b∨b.2.1=8 then true else if a.2.1=8∨a.2.2.1≠b.2.2.1 then false else EA a b):=ae rfl;have C1:=ae λW=>ar9 a b W
 have C2:=ae λW=>acs a.2.2 b.2.2 W
 generalize qE a b=R at *;have u:=K.kK w (.cells (fq a).toArray 73) (.cells (fq b).toArray 73);have hb:=(ah.new w 73 (fq a).toArray).alloc (.cells (fq b).toArray 73);have S:=ah.new (w.alloc (.cells (fq a).toArray 73)) 73 (fq b).toArray;have hz:(w.alloc (.cells (fq a).toArray 73)).heap.size=w.heap.size+1:=aj;rw[hz]at S;clear hz;go_in;go_upto_region 1 with fail;generalize World.alloc (World.alloc w _) _=I at *;have t:=hb.cells;have j:=S.cells;generalize w.heap.size=M at *;clear hb S;by_cases A:a.1=b.1;rotate_left
 ·have HF:Hid (R=false):=ae (by rw[C.aa,if_pos (.inl A)]);have hs:(a.1.toList==b.1.toList)=false:=by rw[PO];simpa using A
  have NS:=t I (K.rf _);have zK:=j I (K.rf _);clear t j A;go_wp2;go_ret;exact⟨D2,u⟩
 have hs:(a.1.toList==b.1.toList)=true:=aB;have NS:=t I (K.rf _);have zK:=j I (K.rf _);have CK1:=ae (acD a.2.1 I);go_wp2_with fail
 apply aI CK1.aa;intro w2 Q;clear CK1 NS zK;cases gL:Du a.2.1
 ·have HF:Hid (R=false):=ae (by rw[C.aa,if_pos (.inr (.inl gL))]);have kF:=u.tr Q;clear t j A C;go_wp2;exact Cf
 have Y:=ae (acD b.2.1 w2);go_wp2_with fail
 apply cF Y.aa Q;intro J k3 y;clear Y Q k3;cases hk2:Du b.2.1
 ·have HF:Hid (R=false):=ae (by rw[C.aa,if_pos (.inr (.inr hk2))]);have kF:=u.tr y;clear t j A C gL;go_wp2;exact Cf
 have G:Hid (R=if a=b∨b.2.1=8 then true else if a.2.1=8∨a.2.2.1≠b.2.2.1 then false else EA a b):=ae (by rw[C.aa,if_neg];simp[A,gL,hk2]);clear C gL hk2 A hs;go_upto_region 3 with fail;have B:∀W,K J W->∀i,W.cell? ⟨M,i,none⟩=(fq a).toArray[i]?:=λW k=>t W (y.tr k)
 have D:∀W,K J W->∀i,W.cell? ⟨M+1,i,none⟩=(fq b).toArray[i]?:=λW k=>j W (y.tr k)
 have qa5:=B J (K.rf _);have qb5:=D J (K.rf _);by_cases h8:a=b
 ·have HF:Hid (R=true):=ae (by rw[G.aa,if_pos (.inl h8)]);have hd:decide (a=b)=true:=by simp[h8]
  have kF:=u.tr y;clear G h8 t j B D;exact QH
 have hd:decide (a=b)=false:=by simp[h8]
 by_cases h9:b.2.1=8
 ·have HF:Hid (R=true):=ae (by rw[G.aa,if_pos (.inr h9)]);have xR:(b.2.1==8)=true:=by simp[h9]
  have kF:=u.tr y;clear G h8 h9 t j B D;exact QH
 have xR:(b.2.1==8)=false:=by simp[h9]
 have H:Hid (R=if a.2.1=8∨a.2.2.1≠b.2.2.1 then false else EA a b):=ae (by rw[G.aa,if_neg];simp[h8,h9]);clear G h8 h9;by_cases E:a.2.1=8
 ·have HF:Hid (R=false):=ae (by rw[H.aa,if_pos (.inl E)]);have Z:(a.2.1==8)=true:=by simp[E]
  have kF:=u.tr y;clear H E t j B D;exact QH
 have Z:(a.2.1==8)=false:=by simp[E]
 by_cases F:a.2.2.1=b.2.2.1;rotate_left
 ·have HF:Hid (R=false):=ae (by rw[H.aa,if_pos (.inr F)]);have X:(a.2.2.1 != b.2.2.1)=true:=by simpa using F
  have kF:=u.tr y;clear H E F t j B D;exact QH
 have X:(a.2.2.1 != b.2.2.1)=false:=by simpa using F
 have HF:Hid (R=EA a b):=ae (by rw[H.aa,if_neg];simp[E,F]);clear H E F;have U:=ae (aqA a.2.1 J);go_wp2_with (first|with_reducible refine ac9 rfl (.tmp 23) (.tmp 24) rfl a b rfl rfl ?_|fail)
 apply aI U.aa;intro N L;clear U qa5 qb5 hd xR Z X;have tv:=u.tr (y.tr L);go_upto_region 8 with fail;have O:∀W,K N W->∀i,W.cell? ⟨M,i,none⟩=(fq a).toArray[i]?:=λW k=>B W (L.tr k)
 have T:∀W,K N W->∀i,W.cell? ⟨M+1,i,none⟩=(fq b).toArray[i]?:=λW k=>D W (L.tr k)
 clear t j B D;have qs:=And.intro O T;refine dK 9 ?_;iterate 7 refine ar.i ?_
 refine ar.is (.int .i64 (fP a.2.2 b.2.2)) (λV W kW hp=>?_) ?_
 ·(try simp only[cz,aN,aQ,bV,bW,aJ]at hp)
  simp[bO,aF,List.lookup,hp,cU,execOp,aG,aJ,O,T,go_sem];apply aI (C2.aa W);intro N L;grind
 refine ar.i ?_;clear qs;intro V W kW hA;simp only[aN,aQ,b6,aJ,Nat.reduceAdd]at hA;obtain⟨e0,e1,e2,e3,e4,e5,e6,e7,e8,-⟩:=hA;have EO:=tv.tr kW;refine aH.call _ _ rfl axq ?_;apply aI (C1.aa W);intro w9 k9;refine⟨_,rfl,?_⟩;have kF:=EO.tr k9;apply aH.pure;rfl;simp[aF,List.lookup,ba,execOp,aG,go_sem];rfl;refine aH.nil ?_;simp only[fT,Act.put,rW,rh,qZ,Nat.reduceAdd,ba,Nat.reduceEqDiff,reduceIte];clear C1 C2 O T e0 e1 e2 e3 e4 e5 e6 e7 e8 kW;go_wp2;exact Cf
def oF:dV (List cX) where
 size:=1
 rel l cs w:=∃v,cs=[v]/\eI l v w
 len:=by rintro _ _ _⟨v,rfl,_⟩;rfl
 one:=by rintro _ _ _⟨v,rfl,A,c,rfl,_⟩ u j;simp at j;subst j;rfl
 st:=by rintro _ _ _ _⟨v,rfl,h⟩ k;exact⟨v,rfl,eu _ _ _ _ h k⟩
theorem ayz:(prog.info? 53).map (λi=>(i.zero,i.size,i.bytes))=some (some (.slice none 0 0),1,24):=by rfl
theorem TFl:fS prog 206 53 (.slice none 0 0) 1 24:=⟨underlying206,ayz,rfl,ax⟩
theorem aqF l v q(f:Nat) cs w(h:eI l v w)(U:l.length<=1000000)(Q:∀args W,(callFunc f args).run prog W=.ok (.enter f args) W)
 (J:∀W,K w W->∀x∈l,Calls prog f (#[ry x]++cs) W λe W'=>e=.returned (.bool (q x))/\K W W') :
 Calls prog 337 #[v,.func (.func f) #[] cs] w λe w'=>e=.returned (.bool (l.any q))/\K w w':=by
 have B:=K.rf w
 obtain⟨A,c,rfl,F⟩:=h
 have E:=ae F
 have L:=ae J
 go_in
 go_wp2_with fail
 go_loopw [6,9] (fun _ i wr=>∃k:Nat,k<=l.length/\i=.int .i64 k/\Hid ((l.take k).any q=false)/\K w wr) (fun _ i _=>l.length-(intOf i).toNat)
 case atStart=>exact⟨0,af,rfl,ae aj,B⟩
 case round =>
  obtain⟨k,hk,rfl,hall,kr⟩:=hrel;by_cases u:k<l.length
  ·have fe:(k:Int)<l.length:=af;obtain⟨b,t,rfl,j,G⟩:=E.aa.I5 af;obtain⟨M,I,C,D,H⟩:=G k u;have X:=(kr.cell (p:=⟨b,t+k*5,none⟩) j).trans M;have d1:=(kr.cell (p:=⟨b,t+k*5+1,none⟩) j).trans I;have d2:=(kr.cell (p:=⟨b,t+k*5+2,none⟩) j).trans C;have d3:=(kr.cell (p:=⟨b,t+k*5+3,none⟩) j).trans D;have S:=(kr.cell (p:=⟨b,t+k*5+4,none⟩) j).trans H;have HB:=ae (yp q l k u);have Kh:=ae (yq q l (k+1));have hm:=bT u;generalize l[k]=x at *;have hx:=ah.new wr 73 (fq x).toArray;have y:=hx.aS;have N:=ae (L.aa _ (kr.tr y) x hm);go_upto_region 4 with fail;have O:=kr.tr y;generalize wr.alloc _=V at *;have R:=hx.cell;have T:=Q;go_wp2_with fail
   apply cF N.aa O;exact ait
  ·exact aiu
theorem asa t u g w(hg:ah w g 73 (fq t).toArray) :
 Calls prog 338 #[ry u,.pointer (some ⟨g,0,none⟩)] w λe w'=>e=.returned (.bool (qE u t))/\K w w':=by
 have j:=ah.new w 73 (fq u).toArray
 have y:=j.aS
 have B:=hg.ay y
 have A:=ae λW=>aoP u t W
 generalize qE u t=R at *
 go_in
 go_upto_region 1 with fail
 generalize w.alloc _=D at *
 have q:=j.cell
 have:=B.cell
 go_wp2_with fail
 apply cF (A.aa D) y
 intro G F C
 go_wp2
 go_ret
 exact⟨rfl,C⟩
theorem ab5 f g v u w(Q:eI f v w)(C:eI g u w)(H:f.length<=1000000)(hg:g.length<=1000000) :
 Calls prog 315 #[v,u] w λe w'=>e=.returned (.bool (oO f g))/\K w w':=by
 have G:Hid (oO f g=f.all λt=>g.any λu=>qE u t):=ae rfl
 generalize oO f g=R at *
 have I:=K.rf w
 obtain⟨A,c,rfl,N⟩:=Q
 have M:=ae N
 have CS:=ae λW (k:K w W) q f cs H V=>aqF g u q f cs W (eu _ _ _ _ C k) hg H V
 obtain⟨D,d,rfl,-⟩:=C
 go_in
 go_wp2_with fail
 go_loopw [6,9] (fun _ i wr=>∃k:Nat,k<=f.length/\i=.int .i64 k/\Hid ((f.take k).all (fun t=>g.any fun u=>qE u t)=true)/\K w wr) (fun _ i _=>f.length-(intOf i).toNat)
 case atStart=>exact⟨0,af,rfl,ae aj,I⟩
 case round =>
  obtain⟨k,hk,rfl,hall,kr⟩:=hrel;by_cases B:k<f.length
  ·have fe:(k:Int)<f.length:=af;obtain⟨b,y,rfl,j,O⟩:=M.aa.I5 af;obtain⟨X,T,J,L,S⟩:=O k B;have d0:=(kr.cell (p:=⟨b,y+k*5,none⟩) j).trans X;have d1:=(kr.cell (p:=⟨b,y+k*5+1,none⟩) j).trans T;have d2:=(kr.cell (p:=⟨b,y+k*5+2,none⟩) j).trans J;have d3:=(kr.cell (p:=⟨b,y+k*5+3,none⟩) j).trans L;have d4:=(kr.cell (p:=⟨b,y+k*5+4,none⟩) j).trans S;have HB:=ae (H8 (λt=>g.any λu=>qE u t) f k B);have Z:=ae (λ(h:(g.any λu=>qE u f[k])=false)=>show (f.all λt=>g.any λu=>qE u t)=false by
    rw[List.all_eq_false];exact⟨f[k],bT B,by rw[h];simp⟩)
   generalize f[k]=x at *;have hx:=ah.new wr 73 (fq x).toArray;have k3:=hx.aS;go_upto_region 4 with fail;have F:=kr.tr k3;generalize wr.alloc _=U at *;generalize wr.heap.size=E at hx⊢;have Y:=ae (CS.aa U F (λu=>qE u x) 338 #[.pointer (some ⟨E,0,none⟩)] (λ_ _=>cC) λW k u _=>asa x u E W (hx.ay k));go_wp2_with fail
   apply cF Y.aa F;intro w2 k2 kW;cases hx:g.any λu=>qE u x
   ·have HE:Hid (R=false):=ae (by rw[G.aa,Z.aa hx]);exact Wt
   ·have o6:Hid ((f.take (k+1)).all (λt=>g.any λu=>qE u t)=true):=ae QI;exact IC
  ·have fe:¬(k:Int)<f.length:=af;have HE:Hid (R=true):=ae (by
    have:=hall.aa;rw[gI af]at this;rw[G.aa];exact this)
   exact Lw
theorem aqG l v q(f:Nat) cs w(h:aq oF l v w)(R:l.length<=1000000)(L:∀args W,(callFunc f args).run prog W=.ok (.enter f args) W)
 (D:∀W,K w W->∀x∈l,∀u,eI x u W->Calls prog f (#[u]++cs) W λe W'=>e=.returned (.bool (q x))/\K W W') :
 Calls prog 295 #[v,.func (.func f) #[] cs] w λe w'=>e=.returned (.bool (l.any q))/\K w w':=by
 have y:=K.rf w
 obtain⟨A,c,rfl,M,-⟩:=h
 have E:=ae D
 go_in
 go_wp2_with fail
 go_loopw [6,9] (fun _ i wr=>∃k:Nat,k<=l.length/\i=.int .i64 k/\Hid ((l.take k).any q=false)/\K w wr) (fun _ i _=>l.length-(intOf i).toNat)
 case atStart=>exact⟨0,af,rfl,ae aj,y⟩
 case round =>
  obtain⟨k,hk,rfl,hall,kr⟩:=hrel;by_cases j:k<l.length
  ·have fe:(k:Int)<l.length:=af;obtain⟨G,I,T,rfl,S,H,J,d⟩:=ed M k j ax;have HB:=ae (yp q l k j);have Kh:=ae (yq q l (k+1));have hm:=bT j;generalize l[k]=x at *;obtain⟨N,rfl,t⟩:=H wr kr;obtain⟨B,C,rfl⟩:=b5 t;have O:wr.cell? ⟨G,I+k,none⟩=some (.slice B x.length C):=by simpa [oF]using J wr kr
   have F:=ae (E.aa wr kr x hm _ t);have Q:=L;go_wp2_with fail
   apply cF F.aa kr;exact ait
  ·exact aiu
theorem asb f e v t g w(j:eI f v w)(hg:ah w g 51 #[t])(u:iy e t w)(C:f.length<=1000000)(D:e.length<=1000000) :
 Calls prog 296 #[v,.pointer (some ⟨g,0,none⟩)] w λr w'=>r=.returned (.bool (mq f e))/\K w w':=by
 have y:=ae (aqk j C u D)
 obtain⟨F,E,rfl⟩:=wY u
 obtain⟨A,c,rfl⟩:=b5 j
 generalize mq f e=R at *
 have q:=hg.cell
 go_in
 go_wp2_with fail
 apply aI y.aa
 intro G B
 go_wp2
 go_ret
 exact⟨rfl,B⟩
theorem atZ l e v y w(t:aq oF l v w)(B:iy e y w)(G:l.length<=1000000)(Q:∀f∈l,f.length<=1000000)(J:e.length<=1000000) :
 Calls prog 257 #[v,y] w λr w'=>r=.returned (.bool (jN l e))/\K w w':=by
 have HR:Hid (jN l e=l.any λf=>mq f e):=ae rfl
 have N:=ae B
 have I:=ae t
 have M:=ae Q
 obtain⟨F,D,rfl⟩:=wY B
 obtain⟨A,c,rfl⟩:=av t
 have hb:=ah.new w 51 #[.slice F e.length D]
 have j:=hb.aS
 generalize jN l e=R at *
 go_in
 go_upto_region 1 with fail
 generalize w.alloc _=E at *
 generalize w.heap.size=gb at hb⊢
 have L:=ae (aqG l _ (λf=>mq f e) 296 #[.pointer (some ⟨gb,0,none⟩)] E (bj I.aa j) G (λ_ _=>cC) λW k f O u C=>asb f e u _ gb W C (hb.ay k) (mY _ _ _ _ N.aa (j.tr k)) (M.aa f O) J)
 go_wp2_with fail
 apply cF L.aa j
 intro S T H
 go_wp2
 go_ret
 exact⟨fJ,H⟩
theorem at0{α S}{l:List α}{A c w}(h:aq S l (.slice A l.length c) w) r(F:r<=l.length):aq S (l.take r) (.slice A r c) w:=by
 obtain⟨A',y,e,⟨css,j,u⟩,E⟩:=h
 injection e with e1 _ e3
 subst e1 e3
 have t:(l.take r).length=r:=aB
 refine⟨A,c,by rw[t],⟨css.take r,j.take r,?_⟩,af⟩
 rw[t,T5 S.size css j.lens r]
 have:=j.Gj
 refine⟨FJ,λC=>?_⟩
 obtain⟨g,B,e,hg,G⟩:=u.2 aB
 grind
theorem adU{α S}{l:List α}{A A' c w}(h:aq S l (.slice A l.length c) w) k(hk:k<=l.length)(hA:k<l.length->A'=A.map (·.add (k*S.size))):aq S (l.drop k) (.slice A' (l.length-k) (c-k)) w:=by
 obtain⟨G,H,e,⟨css,t,D⟩,J⟩:=h
 injection e with e1 _ e3
 subst e1 e3
 have B:(l.drop k).length=l.length-k:=aj
 refine⟨A',c-k,by rw[B],⟨css.drop k,t.drop k,?_⟩,af⟩
 rw[B,T6 S.size css t.lens k]
 have y:=t.Gj
 refine⟨by rw[List.length_drop,y,Nat.sub_mul],λE=>?_⟩
 rw[List.length_drop,y]at E
 have F:k<l.length:=by
  grind
 obtain⟨g,C,rfl,hg,L⟩:=D.2 af
 refine⟨g,C+k*S.size,by rw[hA F];simp[Addr.add_lit],hg,λj u I=>?_⟩
 grind
theorem avS ab:∀(l:List aL) (o:List aT),o.length<=16->(l.foldl (p9 ab) o).length<=16:=by
 intro l
 induction l with
 | nil=>intro o h;exact h
 | cons x l j =>
  grind [p9]
theorem asc ab asks E va w(hb:aq bZ ab E w)(ha:aq aW asks va w)(hlb:ab.length<=1000000)(NQ:asks.length<=1000000) :
 Calls prog 163 #[E,va] w λe w'=>∃v',e=.returned v'/\aC (λk=>k<w.heap.size) w.heap.size 26 bZ (tW ab asks) v' w'/\K w w':=by
 have CB:=ae λW (k:K w W) a=>Fo ab a E W (bj hb k) hlb
 have HE:Hid (tW ab asks=asks.foldl (p9 ab) []):=ae rfl
 have y7:=ae λj=>avS ab (asks.take j) [] aj
 obtain⟨Ab,cb,rfl⟩:=av hb
 obtain⟨A,c,rfl,hl,-⟩:=ha
 generalize tW ab asks=R at *
 have Y:=K.rf w
 have lJ:=aC.nil (λk=>k<w.heap.size) w.heap.size 26 bZ w
 go_in
 go_wp2_with fail
 go_loopw [5,7,10] (fun o _ i W=>∃j:Nat,j<=asks.length/\i=.int .i64 j/\aC (fun k=>k<w.heap.size) w.heap.size 26 bZ ((asks.take j).foldl (p9 ab) []) o W/\K w W) (fun _ _ i _=>asks.length-(intOf i).toNat)
 case atStart=>exact⟨0,af,rfl,lJ,Y⟩
 case round =>
  obtain⟨j,hj,rfl,C,kr⟩:=hrel;have:=y7.aa j;by_cases H:j<asks.length
  ·have aO:(j:Int)<asks.length:=af;obtain⟨Q,V,cs1,rfl,iD,hrl,d0,d⟩:=ed hl j H ax;have y:=ae (fold_succ (p9 ab) asks [] j H);generalize asks[j]=x at *;generalize (asks.take j).foldl (p9 ab) []=P at *;obtain⟨t,ic⟩:∃t,Hid (t=(asks.take (j+1)).foldl (p9 ab) []):=⟨_,ae rfl⟩;replace y:Hid (t=p9 ab P x):=ae (ic.aa.trans y.aa);obtain⟨vf,J,rfl,hf,he⟩:=hrl w (K.rf w);have:∀i,i<8->wr.cell? ⟨Q,V+j*8+i,none⟩=(aE x vf J)[i]?:=λi hi=>(d wr kr i hi).trans Array.getElem?_toList
   have:wr.cell? ⟨Q,V+j*8,none⟩=some (.int .i64 x.kind):=d0 wr kr;have D:=ah.new wr 126 (aE x vf J);have X:=D.aS;obtain⟨Af,cf,rfl⟩:=b5 hf;obtain⟨Ae,ce,rfl⟩:=av he;obtain⟨O,U,rfl⟩:=C.slice;go_upto_region 5 with fail;have M:=C.st X;have F:=kr.tr X;generalize wr.alloc _=w3 at *;by_cases jn:P.length<16;rotate_left
   ·have Gs:¬(P.length:Int)<16:=af;have HP:Hid (t=P):=ae (by rw[y.aa];unfold p9;rw[if_neg (by omega)]);go_wp2;go_roundw
    case rel=>exact⟨j+1,af,bD,by rw[<- ic.aa,HP.aa];exact M,F⟩
    case measure=>simp[intOf];omega
   have Gs:(P.length:Int)<16:=af;have G:=D.cell;have C3:=ae (CB.aa w3 F (au x));go_wp2_with fail
   apply cF C3.aa F;intro Z B gW;have cY:=M.st B;have I:=D.ay B;have G:=I.cell;cases hb0:dG ab (au x)
   ·have HP:Hid (t=P):=ae (by rw[y.aa];unfold p9;rw[if_neg (by simp[hb0])]);exact LF
   have C4:=ae (Fo P (au x) _ Z cY.aq af);go_wp2_with fail
   apply cF C4.aa gW;intro L B mh;have dm:=cY.st B;have eB:=I.ay B;have G:=eB.cell;cases aR:dG P (au x);rotate_left
   ·have HP:Hid (t=P):=ae (by rw[y.aa];unfold p9;rw[if_neg (by simp[aR])]);exact ahQ
   have HP:Hid (t=P++[au x]):=ae (by rw[y.aa];unfold p9;rw[if_pos ⟨jn,hb0,aR⟩]);have hr:=ez.new (S:=bZ) (e:=26) (x:=au x) (v:=.agg (dh (au x))) (w:=L) (N:=λk=>k<w.heap.size∨(Value.slice O P.length U).ownBlock=some k) (λW u=>rfl) 0 (eE _);have T:=K.new L (.cells (dh (au x)) 26);have iU:=dm.st T;have pX:=mh.tr T;have pV:=pX.size;go_wp2_with (at_builtin;refine jz rfl _ _ 44 rfl _ 3 24 wu rfl rfl iU _ rfl (au x) ?p1 ?p2 ?p3 ?_)
   case p1=>exact hr
   case p2=>omega
   case p3=>exact pV
   exact ahS
  ·have aO:¬(j:Int)<asks.length:=af;have HR:Hid (R=(asks.take j).foldl (p9 ab) []):=ae WS;generalize (asks.take j).foldl (p9 ab) []=P at *;obtain⟨O,U,rfl⟩:=C.slice;go_wp2;go_ret;exact⟨_,rfl,by rw[HR.aa];exact C,kr⟩
theorem asd l(n:Nat) v w(h:aq aW l v w)(y:∀x∈l,ew x)(N:l.length<=1000000)(hn:n<18446744073709551616) :
 Calls prog 161 #[v,.int .u64 n] w λe w'=>∃v',e=.returned v'/\aC (λk=>k<w.heap.size) w.heap.size 126 aW (yJ l n) v' w'/\K w w':=by
 have j:Hid (yJ l n=(l.drop n).take 4):=ae rfl
 have t:=h
 obtain⟨A,c,rfl,C,O⟩:=h
 generalize yJ l n=R at *
 have F:=K.rf w
 by_cases D:l.length<=n
 ·have H:Hid (R=[]):=ae (by rw[j.aa,List.drop_eq_nil_of_le D];rfl);have G:(l.length:Int)<=n:=af;have hO:=aC.nil (λk=>k<w.heap.size) w.heap.size 126 aW w;clear t C D;go_in;go_wp2;go_ret;exact⟨_,rfl,by rw[H.aa];exact hO,F⟩
 have G:¬(l.length:Int)<=n:=af
 have:(n:Int)<=c:=af
 have u:=adU t n af (A':=Option.map ((λx=>x) ∘ λx=>x.add (n*8)) A) (λ_=>rfl)
 have HS:Hid (∀x∈(l.drop n).take 4,ew x):=ae λx I=>y x (List.mem_of_mem_drop (nQ I))
 have lE:((l.drop n).take 4).length<=1000000:=aY
 by_cases E:4<l.length-n
 ·have L:(4:Int)<((l.length-n:Nat):Int):=af;have H2:=ae (at0 (l:=l.drop n) (c:=c-n) (by rw[List.length_drop];exact u) 4 aY);rw[<- j.aa]at HS lE H2;clear t C y u j E;go_in;go_wp2_with fail
  try rw[show (min ((l.length-n:Nat):Int) 4).toNat=4 by omega]
  exact aiv
 ·have L:¬(4:Int)<((l.length-n:Nat):Int):=af;have B:R=l.drop n:=by rw[j.aa,gI (by simp;omega)]
  have H2:=ae u;rw[<- j.aa]at HS lE;rw[<- B]at H2;have J:R.length=l.length-n:=by rw[B];simp
  clear t C y u j E B J;go_in;go_wp2_with fail
  try rw[show (min ((l.length-n:Nat):Int) 4).toNat=l.length-n by omega]
  exact aiv
theorem at1{l o:List (List cX)}{j}(h:j<l.length):oP o (l.drop j)=if o.any (λs=>oO s l[j])||(l.drop (j+1)).any (λs=>oO s l[j])then oP o (l.drop (j+1))else oP (o++[l[j]]) (l.drop (j+1)):=by rw[List.drop_eq_getElem_cons h];rfl
theorem adV(l:List cX):∀u∈l.flatMap fq,u.oneCell'=true:=by intro u hu;obtain⟨t,-,hu⟩:=List.mem_flatMap.1 hu;exact VG
theorem apz l v w(h:aq oF l v w)(hlen:l.length<=500000)(hf:∀f∈l,f.length<=1000000) :
 Calls prog 294 #[v] w λe w'=>∃v',e=.returned v'/\aC (λk=>k<w.heap.size) w.heap.size 53 oF (si l) v' w'/\K w w':=by
 have I:Hid (si l=oP [] (l.drop 0)):=ae rfl
 have HF:=ae hf
 have HH:=ae h
 obtain⟨A,c,rfl,hl,hc⟩:=h
 generalize si l=R at *
 have kk:=K.rf w
 have lJ:=aC.nil (λk=>k<w.heap.size) w.heap.size 53 oF w
 clear hf
 go_in
 go_wp2
 go_step3
 go_wp2_with fail
 go_step3
 go_wp2_with fail
 go_loopw [3,4,5,7,9,12] (fun vo _ _ _ _ i W=>∃(j:Nat) (o:List (List cX)),j<=l.length/\i=.int .i64 (j:Int)/\o.length<=j/\(∀f∈o,f.length<=1000000)/\Hid (R=oP o (l.drop j))/\aC (fun k=>k<w.heap.size) w.heap.size 53 oF o vo W/\K w W) (fun _ _ _ _ _ i _=>l.length-(intOf i).toNat)
 case atStart=>exact⟨0,[],af,rfl,aj,aj,I,lJ,kk⟩
 case round =>
  clear lJ kk I;obtain⟨j,o,hj,rfl,hoj,Tc,I,G,kr⟩:=hrel;obtain⟨Ao,co,rfl⟩:=G.slice;by_cases hlt:j<l.length;rotate_left
  ·have aO:¬(j:Int)<(l.length:Int):=af;have B:Hid (R=o):=ae (by rw[I.aa,List.drop_eq_nil_of_le (by omega)];rfl);go_wp2;go_ret;exact⟨_,rfl,by rw[B.aa];exact G,kr⟩
  have aO:(j:Int)<(l.length:Int):=af;obtain⟨b1,off,cs1,rfl,iD,hr1,d0,-⟩:=ed hl j hlt ax;have HS:=ae (at1 (o:=o) hlt);rw[<- I.aa]at HS;have CQ:=HF.aa _ (bT hlt);generalize l[j]=f at *;obtain⟨vf,rfl,G5⟩:=hr1 w (K.rf w);have d0:=λW k=>by simpa [oF]using d0 W k
  have HV:=ae G5;obtain⟨Af,cf,rfl,hRf⟩:=G5;have HRf:=ae hRf;clear iD hr1 hRf I;have q1:=d0 wr kr;generalize wr=w1 at *;go_wp2_with fail
  go_loopw [7,19] (fun _ i W=>∃k:Nat,k<=o.length/\i=.int .i64 (k:Int)/\Hid ((o.take k).any (fun s=>oO s f)=false)/\K w1 W) (fun _ i _=>o.length-(intOf i).toNat)
  case atStart=>exact⟨0,af,rfl,ae aj,K.rf _⟩
  case round =>
   obtain⟨k,hk,rfl,hall,J⟩:=hrel;have cO:=kr.tr J;by_cases vH:k<o.length
   ·have fe:(k:Int)<(o.length:Int):=af;obtain⟨A9,c9,F,hlo,-⟩:=G.aq;injection F with F _ gu;subst F gu;obtain⟨b2,o2,cs2,rfl,Mz,V,d2,-⟩:=ed hlo k vH ax;have HB:=ae (yp (λs=>oO s f) o k vH);have Kh:=ae (yq (λs=>oO s f) o (k+1));have YG:=Tc _ (bT vH);generalize o[k]=g at *;obtain⟨vg,rfl,E⟩:=V wr J;have q2:wr.cell? ⟨b2,o2+k,none⟩=some vg:=by simpa [oF]using d2 wr J
    have T:=ae (ab5 g f vg _ wr E (eu _ _ _ _ HV.aa cO) YG CQ);obtain⟨Ag,cg,rfl⟩:=b5 E;have HO:=ae (G.st J);clear Mz V d2 E hlo;go_wp2_with fail
    apply cF T.aa J;intro w2 k2 kW;clear q2 T;cases hx:oO g f
    ·have o6:Hid ((o.take (k+1)).any (λs=>oO s f)=false):=ae QI;clear hx;exact IC
    ·have B:Hid (R=oP o (l.drop (j+1))):=ae (by rw[HS.aa,if_pos];rw[Kh.aa (by rw[HB.aa,hx];simp)];rfl);have D:=HO.aa.st k2;have kF:=kr.tr kW;clear hx G;go_wp2;go_roundw
     case rel=>exact⟨j+1,o,af,bD,af,Tc,B,D,kF⟩
     case measure=>simp[intOf];omega
   ·have fe:¬(k:Int)<(o.length:Int):=af;have HN:=ae (by
     have:=hall.aa;rw[gI af]at this;exact this)
    have D:=G.st J;clear hall;generalize wr=w4 at *;by_cases Nb:j+1<l.length
    ·have hcn:¬c=j+1:=af;have R4:=adU HH.aa (j+1) af (A':=some ⟨b1,off+(j+1),none⟩) (λ_=>by simp[oF,Addr.add_lit]);obtain⟨A9,c9,F,Td,-⟩:=R4;injection F with F gu rN;subst F rN;have Hs:(l.drop (j+1)).length=l.length-(j+1):=aj;have HFD:Hid (∀g∈l.drop (j+1),g.length<=1000000):=ae λg hg=>HF.aa g (List.mem_of_mem_drop hg)
     have HDL:=ae Hs;clear Hs gu;go_wp2_with fail
     go_loopw [9,32] (fun _ i W=>∃k:Nat,k<=l.length-(j+1)/\i=.int .i64 (k:Int)/\Hid (((l.drop (j+1)).take k).any (fun s=>oO s f)=false)/\K w4 W) (fun _ i _=>l.length-(j+1)-(intOf i).toNat)
     case atStart=>exact⟨0,af,rfl,ae aj,K.rf _⟩
     case round =>
      obtain⟨k,hk,rfl,hall,H⟩:=hrel;have t:=cO.tr H;by_cases RG:k<l.length-(j+1)
      ·have aAt:(k:Int)<((l.length-(j+1):Nat):Int):=af;have RH:k<(l.drop (j+1)).length:=by rw[HDL.aa];exact RG
       obtain⟨b2,o2,cs2,L,Mz,V,d2,-⟩:=ed Td k RH ax;injection L with L;injection L with L e3;subst L e3;have HB:=ae (yp (λs=>oO s f) (l.drop (j+1)) k RH);have Kh:=ae (yq (λs=>oO s f) (l.drop (j+1)) (k+1));have YG:=HFD.aa _ (bT RH);generalize (l.drop (j+1))[k]=g at *;obtain⟨vg,rfl,E⟩:=V wr t;have q2:wr.cell? ⟨b1,off+(j+1)+k,none⟩=some vg:=by simpa [oF]using d2 wr t
       have T:=ae (ab5 g f vg _ wr E (eu _ _ _ _ HV.aa t) YG CQ);obtain⟨Ag,cg,rfl⟩:=b5 E;clear Mz V d2 E RH;go_wp2_with fail
       apply cF T.aa H;intro w2 k2 kW;clear q2 T;cases hx:oO g f
       ·have o6:Hid (((l.drop (j+1)).take (k+1)).any (λs=>oO s f)=false):=ae QI;clear hx;exact IC
       ·have B:Hid (R=oP o (l.drop (j+1))):=ae (by rw[HS.aa,if_pos];rw[Kh.aa (by rw[HB.aa,hx];simp)];simp);have C:=D.st kW;have kF:=cO.tr kW;clear hx D;go_wp2;go_roundw
        case rel=>exact⟨j+1,o,af,bD,af,Tc,B,C,kF⟩
        case measure=>simp[intOf];omega
      ·have aAt:¬(k:Int)<((l.length-(j+1):Nat):Int):=af;have EV:=ae (by
        have:=hall.aa;rw[gI (by rw[HDL.aa];omega)]at this;exact this)
       clear Td;have B:Hid (R=oP (o++[f]) (l.drop (j+1))):=ae aiw;have Z:=ae (abY Af f.length cf (f.flatMap fq) wr ((HRf.aa.below t (aD _)).more t.size) (adV f) af);have C:=D.st H;clear D EV;go_wp2_with fail
       apply bN Z.aa;rintro v6 O⟨y,X⟩;have Q:=xc y;have U:Fx (λk=>k<wr.heap.size) (λW=>oF.rel f [v6] W) O:=λW u=>⟨v6,rfl,xc (iN y u λb hb hk=>by have:=(y.lt b hb).1;omega)⟩
       obtain⟨M,c6,rfl⟩:=b5 Q;have YH:=t.tr X;have hr:=ez.new (S:=oF) (e:=53) (v:=.slice M f.length c6) U 0 (eE _);have oA:=t.size;have bS:=C.blk;have Y:=K.new O (.cells #[.slice M f.length c6] 53);have cY:=C.st (X.tr Y);have N:=YH.tr Y;have RI:=N.size;clear C y Q U Z;go_wp2_with (at_builtin;refine jz rfl _ _ 206 rfl _ 1 24 TFl rfl rfl cY _ rfl f ?p1 ?p2 ?p3 ?_)
       case p1=>exact hr.less λk hk=>aix
       case p2=>omega
       case p3=>exact RI
       intro v9 w9 bE cd eS bq;have wP:=N.trans bq;have YI:∀g∈o++[f],g.length<=1000000:=λg hg=>by exact aiy
       clear hr cY cd eS bq bS;go_wp2;go_roundw
       case rel=>exact⟨j+1,o++[f],af,bD,aY,YI,B,bE,wP⟩
       case measure=>simp[intOf];omega
    ·have aAu:l.length=j+1:=af;have EV:Hid ((l.drop (j+1)).any (λs=>oO s f)=false):=ae (by rw[List.drop_eq_nil_of_le (by omega)];rfl);have hz0:l.length-(j+1)=0:=af;clear aAu;go_wp2_with fail
     all_goals
      go_loopw [9,32] (fun _ i W=>i=.int .i64 0/\K w4 W) (fun _ _ _=>0)
     all_goals first|(exact⟨rfl,K.rf _⟩)|skip
     all_goals
      obtain⟨rfl,H⟩:=hrel
      have t:=cO.tr H
      have B:Hid (R=oP (o++[f]) (l.drop (j+1))):=ae aiw
      have Z:=ae (abY Af f.length cf (f.flatMap fq) wr ((HRf.aa.below t (aD _)).more t.size) (adV f) af)
      have C:=D.st H
      clear D EV
      go_wp2_with fail
      apply bN Z.aa
      rintro v6 O⟨y,X⟩
      have Q:=xc y
      have U:Fx (λk=>k<wr.heap.size) (λW=>oF.rel f [v6] W) O:=λW u=>⟨v6,rfl,xc (iN y u λb hb hk=>by have:=(y.lt b hb).1;omega)⟩
      obtain⟨M,c6,rfl⟩:=b5 Q
      have YH:=t.tr X
      have hr:=ez.new (S:=oF) (e:=53) (v:=.slice M f.length c6) U 0 (eE _)
      have oA:=t.size
      have bS:=C.blk
      have Y:=K.new O (.cells #[.slice M f.length c6] 53)
      have cY:=C.st (X.tr Y)
      have N:=YH.tr Y
      have RI:=N.size
      clear C y Q U Z
      go_wp2_with (at_builtin;refine jz rfl _ _ 206 rfl _ 1 24 TFl rfl rfl cY _ rfl f ?p1 ?p2 ?p3 ?_)
      case p1=>exact hr.less λk hk=>aix
      case p2=>omega
      case p3=>exact RI
      intro v9 w9 bE cd eS bq
      have wP:=N.trans bq
      have YI:∀g∈o++[f],g.length<=1000000:=λg hg=>by exact aiy
      clear hr cY cd eS bq bS
      go_wp2
      try rw[<- h]
      go_roundw
      case rel=>exact⟨j+1,o++[f],af,bD,aY,YI,B,bE,wP⟩
      case measure=>simp[intOf];omega
theorem aqH s cs v vc g w(h:sub s v w)(hg:ah w g 23 #[vc])(t:aq cL cs vc w)(C:cs.length<=1000000) :
 Calls prog 293 #[v,.pointer (some ⟨g,0,none⟩)] w λe w'=>e=.returned (.bool (decide (s.cl∈cs)))/\K w w':=by
 obtain⟨vs,rfl,D⟩:=h
 obtain⟨A,d,rfl⟩:=b5 D
 have hb:=ah.new w 246 (mG s (.slice A s.f.length d))
 have j:=hb.aS
 have y:=hg.ay j
 have u:=ae (abA cs s.cl vc _ (bj t j) C)
 obtain⟨H,cc,rfl⟩:=av t
 generalize decide (s.cl∈cs)=R at *
 go_in
 go_upto_region 1 with fail
 generalize w.alloc _=I at *
 have q:=hb.cell
 have:=y.cell
 go_wp2_with fail
 apply cF u.aa j
 intro G F B
 go_wp2
 go_ret
 exact⟨rfl,B⟩
theorem aoQ l cs v vc w(h:aq iz l v w)(L:aq cL cs vc w)(hlen:l.length<=500000)(hcl:cs.length<=1000000)(D:∀s∈l,s.f.length<=1000000) :
 Calls prog 255 #[v,vc] w λe w'=>∃v',e=.returned v'/\aq oF (si ((qC l cs).map (·.f))) v' w'/\K w w':=by
 have HR:Hid (si ((qC l cs).map (·.f))=si ((l.filter λs=>decide (s.cl∈cs)).map (·.f))):=ae rfl
 have HL:=ae (IY h)
 have HS:=ae D
 have HC:=ae L
 obtain⟨A,d,rfl⟩:=av h
 obtain⟨Ac,cc,rfl⟩:=av L
 have hb:=ah.new w 23 #[.slice Ac cs.length cc]
 have E:=hb.aS
 generalize si ((qC l cs).map (·.f))=R at *
 clear h L D
 go_in
 go_upto_region 1 with fail
 generalize w.alloc _=w1 at *
 have hz1:=E.size
 generalize nF:w.heap.size=lo at hb HL hz1⊢
 have C1:=ae (Fs (λk=>lo<=k) l _ (λs=>decide (s.cl∈cs)) 293 #[.pointer (some ⟨lo,0,none⟩)] w1 (HL.aa.st E) af (λ_ _=>cC) λW k s _ u hu=>aqH s cs u _ lo W hu (hb.ay k) (bj HC.aa (E.tr k)) hcl)
 clear nF
 go_wp2_with fail
 apply bN C1.aa
 rintro v2 B⟨C,k2⟩
 have:=lQ (λs=>decide (s.cl∈cs)) l
 have ES:=Ir (q:=λs=>decide (s.cl∈cs)) HS.aa
 generalize l.filter (λs=>decide (s.cl∈cs))=t at *
 have bB:=E.tr k2
 have:=C.blk
 obtain⟨G,c2,rfl⟩:=C.slice
 have H2:=ae (C.Hg (N:=λk=>lo<=k/\(Value.slice G t.length c2).ownBlock≠some k) (λk hk=>.inl hk.1) λk U Y=>Y.2 U)
 have Ka:=ae ES
 have lJ:=aC.nil (λk=>lo<=k/\(Value.slice G t.length c2).ownBlock≠some k) B.heap.size 53 oF B
 have X:=K.rf B
 clear C1 C hb ES
 go_wp2_with fail
 go_loopw [6,8,14] (fun vo _ i W=>∃j:Nat,j<=t.length/\i=.int .i64 j/\aC (fun k=>lo<=k/\(Value.slice G t.length c2).ownBlock≠some k) B.heap.size 53 oF ((t.take j).map (·.f)) vo W/\K B W) (fun _ _ i _=>t.length-(intOf i).toNat)
 case atStart=>exact⟨0,af,rfl,fk,X⟩
 case round =>
  clear lJ X;obtain⟨j,hj,rfl,y,kr⟩:=hrel;by_cases hlt:j<t.length
  ·have aO:(j:Int)<t.length:=af;obtain⟨b,M,c',cs1,T,s7,iD,H,d⟩:=H2.aa.at j hlt ax;injection T with T _ e2;subst T e2;have HT:Hid ((t.take (j+1)).map (·.f)=(t.take j).map (·.f)++[t[j].f]):=ae Wl;generalize t[j]=x at *;obtain⟨vf,rfl,G5⟩:=H.now;have q9:∀i,i<3->wr.cell? ⟨b,M+j*3+i,none⟩=(mG x vf)[i]?:=λi hi=>(d wr (ag.aU kr _) i hi).trans Array.getElem?_toList
   have q0:wr.cell? ⟨b,M+j*3,none⟩=some (.int .i64 x.cl):=by first|exact q9 0 (by decide)|simp
   have Dr:Fx (λk=>lo<=k/\(Value.slice (some ⟨b,M,none⟩) t.length c2).ownBlock≠some k) (λW=>oF.rel x.f [vf] W) B:=λW u=>by obtain⟨jQ,e,h⟩:=H W u;simp at e;subst e;exact⟨_,rfl,h⟩
   obtain⟨O,J,rfl⟩:=b5 G5;have hx:=ah.new wr 246 (mG x (.slice O x.f.length J));have k3:=hx.aS;obtain⟨Ao,co,rfl⟩:=y.slice;have:((t.take j).map (·.f)).length<=500000:=aY;clear d H G5 iD;go_upto_region 6 with fail;have Q:=y.st k3;have cO:=kr.tr k3;generalize wr.alloc _=w3 at *;clear q9 q0 y;have:=hx.cell;generalize (t.take j).map (·.f)=o at *;have bS:=Q.blk;have hr:=ez.new (S:=oF) (e:=53) (v:=.slice O x.f.length J) (Dr.k cO) 0 (eE _);have Z:=K.new w3 (.cells #[.slice O x.f.length J] 53);have cY:=Q.st Z;have gW:=cO.tr Z;have il:=gW.size;clear Q Dr;go_wp2_with (at_builtin;refine jz rfl _ _ 206 rfl _ 1 24 TFl rfl rfl cY _ rfl x.f ?p1 ?p2 ?p3 ?_)
   case p1 =>
    exact hr.less λk hk=>by
     rcases hk with hk|hk
     ·exact hk
     ·have U:=bS k hk;have Y:=k2.size;grind
   case p2=>omega
   case p3=>simpa using il
   intro v9 w9 bE cd eS bq;have wP:=gW.trans bq;clear hr cY cd eS bq bS;go_wp2;go_roundw
   case rel=>exact⟨j+1,af,bD,by rw[HT.aa];exact bE,wP⟩
   case measure=>simp[intOf];omega
  ·have aO:¬(j:Int)<t.length:=af;have V:(t.take j).map (·.f)=t.map (·.f):=aB;rw[V]at y;have I:=ae (apz (t.map (·.f)) _ wr y.aq aY (λf hf=>by obtain⟨s,D,rfl⟩:=List.mem_map.1 hf;exact Ka.aa s D));obtain⟨Ao,co,rfl⟩:=y.slice;rw[<- HR.aa]at I;have pk:=bB.tr kr;clear V y;generalize t.map (·.f)=o at *;go_wp2_with fail
   apply rr I.aa pk;intro v5 w5 F k5 kF;have Bq:=ae F.aq;obtain⟨A5,c5,rfl⟩:=F.slice;clear I F;go_wp2;go_ret;exact⟨_,rfl,Bq.aa,kF⟩
theorem axr{e}(h:fN e=true):∀x∈e,j8 x=true:=by
 simp only[fN,dz,decide_eq_true_eq]at h;have key:∀(l:List cM) (p:Option ByteArray),jF p l=true->∀x∈l,j8 x=true:=by
  intro l
  induction l with
  | nil=>intro p _ x j;simp at j
  | cons y l t =>
   grind [fN,j8,jF]
 exact key e none h.2
theorem ase{l cs}{es:List (List cM)}(u:∀s∈l,okF s.f=true)(j:∀e∈es,fN e=true):es.filter (jN (si ((qC l cs).map (·.f))))=es.filter (anyS (qC l cs)):=by
 refine List.filter_congr λe hm=>?_
 rw[ar8 (λf t=>?_) (axr (j e hm))]
 ·grind [jN,anyS,List.any_map]
 ·grind [okF,fN,jN,si,qC,anyS]
theorem asf l e v t g w(j:aq oF l v w)(hg:ah w g 206 #[v])(u:iy e t w)(B:l.length<=1000000)(D:∀f∈l,f.length<=1000000)(E:e.length<=1000000) :
 Calls prog 256 #[t,.pointer (some ⟨g,0,none⟩)] w λr w'=>r=.returned (.bool (jN l e))/\K w w':=by
 have y:=ae (atZ l e v t w j u B D E)
 obtain⟨G,F,rfl⟩:=wY u
 obtain⟨A,c,rfl⟩:=av j
 generalize jN l e=R at *
 clear j u
 have q:=hg.cell
 go_in
 go_wp2_with fail
 apply aI y.aa
 intro H C
 clear y q hg
 go_wp2
 go_ret
 exact⟨rfl,C⟩
theorem adW l cs x v vc vx w(h:aq iz l v w)(hc:aq cL cs vc w)(L:dx x vx w)(hlen:l.length<=500000)(hcl:cs.length<=1000000)(hs:∀s∈l,okF s.f=true)(hok:bH x=true) :
 Calls prog 162 #[v,vc,vx] w λe w'=>∃v',e=.returned v'/\vN w.heap.size (jD l cs x) v' w'/\K w w':=by
 have Y:=ae (uK hok)
 have Fe:∀s∈l,s.f.length<=1000000:=λs hs'=>by have:=(DK (hs s hs')).1;omega
 have CF:=ae λW (k:K w W)=>aoQ l cs v vc W (bj h k) (bj hc k) hlen hcl Fe
 have Te:Hid ((si ((qC l cs).map (·.f))).length<=1000000/\∀f∈si ((qC l cs).map (·.f)),f.length<=1000000):=ae (by
  have h1:(qC l cs).length<=l.length:=lQ _ _;refine⟨?_,λf hf=>?_⟩
  ·have:=@Vt ((qC l cs).map (·.f)) [];unfold si;simp at this;omega
  ·have:=Vs hf;simp only[List.not_mem_nil,false_or]at this;obtain⟨s,hs',rfl⟩:=List.mem_map.1 this;exact Fe s (List.mem_filter.1 hs').1)
 have HCF:Hid (x.kind=1->x.es.filter (jN (si ((qC l cs).map (·.f))))=x.es.filter (anyS (qC l cs))):=ae λhk=>ase hs (by
  unfold bH at hok;rw[if_pos hk]at hok;simp only[dz,vD]at hok;exact hok.2.2)
 have Tf:Hid (jD l cs x=if x.kind=1 then { x with es:=x.es.filter (anyS (qC l cs)) }else x):=ae rfl
 obtain⟨vf,ve,rfl,hf,he⟩:=L
 have HF:=ae hf
 have HE:=ae he
 obtain⟨V,U,rfl⟩:=b5 hf
 obtain⟨Ae,ce,rfl⟩:=av he
 obtain⟨A,d,rfl⟩:=av h
 obtain⟨Ac,cc,rfl⟩:=av hc
 generalize si ((qC l cs).map (·.f))=RF at *
 generalize jD l cs x=R at *
 have k1:=K.kK w (.cells (aE x (.slice V x.f.length U) (.slice Ae x.es.length ce)) 126) (.cells #[.int .i64 0,.int .i64 0,.int .u64 0,.int .u64 0,.int .i64 0,.int .u64 0,.slice none 0 0,.slice none 0 0] 126)
 have hb:=(ah.new w 126 (aE x (.slice V x.f.length U) (.slice Ae x.es.length ce))).alloc (.cells #[.int .i64 0,.int .i64 0,.int .u64 0,.int .u64 0,.int .i64 0,.int .u64 0,.slice none 0 0,.slice none 0 0] 126)
 have J:=ah.new (w.alloc (.cells (aE x (.slice V x.f.length U) (.slice Ae x.es.length ce)) 126)) 126 #[.int .i64 0,.int .i64 0,.int .u64 0,.int .u64 0,.int .i64 0,.int .u64 0,.slice none 0 0,.slice none 0 0]
 have hz:(w.alloc (.cells (aE x (.slice V x.f.length U) (.slice Ae x.es.length ce)) 126)).heap.size=w.heap.size+1:=aj
 rw[hz]at J
 clear hf he h hc Fe hs hok hz
 go_in
 go_upto_region 1 with fail
 generalize World.alloc (World.alloc w _) _=w1 at *
 generalize nF:w.heap.size=lo at hb J⊢
 have lL:=ae nF.symm
 have YJ:=J.lt
 have hz1:=k1.size
 clear nF
 by_cases hk:x.kind=1
 rotate_left
 ·have hkb:(x.kind==1)=false:=sN;obtain⟨es,H⟩:∃es,es=x.es:=⟨_,rfl⟩;have Ke:Hid (R={ x with es:=es }):=ae (by rw[Tf.aa,if_neg hk,H]);have kQ:es.length<=1000000:=by rw[H];exact Y.aa.2.1
  have fg:∀e∈es,e.length<=1000000:=by rw[H];exact Y.aa.2.2
  have hle:aq cI es (.slice Ae es.length ce) w1:=by rw[H];exact bj HE.aa k1
  have L:ah w1 lo 126 (aE x (.slice V x.f.length U) (.slice Ae es.length ce)):=by rw[H];exact hb
  have q0:=L.cell;have kA:=k1;have uB:=YJ;clear hk H Tf HCF HE hb k1 YJ hz1 CF Te;generalize w1=wA at *;go_upto_region 4 with fail;clear q0;have CE:=ae (Um es _ wA hle kQ fg);have q:=L.cell;go_wp2_with fail
  apply bN CE.aa;rintro v5 G⟨Z,F⟩;have M:=L.ay F;have Oe:=J.ay F;have N5:=kA.size;have hzB:=F.size;clear CE q L J hle;have q:=M.cell;have z:=M.frozen;obtain⟨B,c5,rfl⟩:=av Z.sw.aq;go_upto_region 5 with fail;have Ht:ah (G.setCell ⟨lo,7,none⟩ (.slice B es.length c5)) lo 126 (aE x (.slice V x.f.length U) (.slice B es.length c5)):=M.aP 7 _;have Og:=Oe.far (p:=⟨lo,7,none⟩) aj (.slice B es.length c5);have kC:K w (G.setCell ⟨lo,7,none⟩ (.slice B es.length c5)):=K.set (kA.tr F) LJ 7 _;have MG:=Z.up (w':=G.setCell ⟨lo,7,none⟩ (.slice B es.length c5)) (aD _) (aK.set af 7 _);have hzC:(G.setCell ⟨lo,7,none⟩ (.slice B es.length c5)).heap.size=G.heap.size:=aj;clear M Oe Z q z;generalize G.setCell _ _=wC at *;have CT:=ae (Uv x.f _ wC (eu _ _ _ _ HF.aa kC) (Y.aa.1));have q:=Ht.cell;go_wp2_with fail
  apply bN CT.aa;rintro v6 I⟨Hu,O⟩;have N:=Ht.ay O;have Oh:=Og.ay O;have MH:=MG.st O;clear CT q Ht Og MG;have q:=N.cell;have z:=N.frozen;have YK:=b5 (xc Hu);obtain⟨j,t,rfl⟩:=YK;go_upto_region 6 with fail;have hxE:ah (I.setCell ⟨lo,6,none⟩ (.slice j x.f.length t)) lo 126 (aE x (.slice j x.f.length t) (.slice B es.length c5)):=N.aP 6 _;have Hv:=Oh.far (p:=⟨lo,6,none⟩) aj (.slice j x.f.length t);have kE:K w (I.setCell ⟨lo,6,none⟩ (.slice j x.f.length t)):=K.set (kC.tr O) LJ 6 _;have YL:=MH.up (w':=I.setCell ⟨lo,6,none⟩ (.slice j x.f.length t)) (aD _) (aK.set af 6 _);have YM:fQ (I.setCell ⟨lo,6,none⟩ (.slice j x.f.length t)) wC.heap.size (.slice j x.f.length t) x.f:=fQ.up Hu (aK.set af 6 _);clear N Oh MH Hu q z;generalize I.setCell _ _=C at *;have q:=hxE.cell;have y:=Hv.cell;have z:=Hv.frozen;have D:w.heap.size<=lo+1:=by rw[lL.aa];omega
  have E:=uB;go_wp2;have dH:ah (World.setCell C _ _) (lo+1) 126 #[.int .i64 x.kind,.int .i64 0,.int .u64 0,.int .u64 0,.int .i64 0,.int .u64 0,.slice none 0 0,.slice none 0 0]:=Hv.aP 0 (.int .i64 x.kind);have hr1:ah (World.setCell (World.setCell C _ _) _ _) (lo+1) 126 #[.int .i64 x.kind,.int .i64 x.br,.int .u64 0,.int .u64 0,.int .i64 0,.int .u64 0,.slice none 0 0,.slice none 0 0]:=dH.aP 1 (.int .i64 x.br);have T:ah (World.setCell (World.setCell (World.setCell C _ _) _ _) _ _) (lo+1) 126 #[.int .i64 x.kind,.int .i64 x.br,.int .u64 x.life,.int .u64 0,.int .i64 0,.int .u64 0,.slice none 0 0,.slice none 0 0]:=hr1.aP 2 (.int .u64 x.life);have S:ah (World.setCell (World.setCell (World.setCell (World.setCell C _ _) _ _) _ _) _ _) (lo+1) 126 #[.int .i64 x.kind,.int .i64 x.br,.int .u64 x.life,.int .u64 x.bY,.int .i64 0,.int .u64 0,.slice none 0 0,.slice none 0 0]:=T.aP 3 (.int .u64 x.bY);have Q:ah (World.setCell (World.setCell (World.setCell (World.setCell (World.setCell C _ _) _ _) _ _) _ _) _ _) (lo+1) 126 #[.int .i64 x.kind,.int .i64 x.br,.int .u64 x.life,.int .u64 x.bY,.int .i64 x.cl,.int .u64 0,.slice none 0 0,.slice none 0 0]:=S.aP 4 (.int .i64 x.cl);have iL:ah (World.setCell (World.setCell (World.setCell (World.setCell (World.setCell (World.setCell C _ _) _ _) _ _) _ _) _ _) _ _) (lo+1) 126 #[.int .i64 x.kind,.int .i64 x.br,.int .u64 x.life,.int .u64 x.bY,.int .i64 x.cl,.int .u64 x.sub,.slice none 0 0,.slice none 0 0]:=Q.aP 5 (.int .u64 x.sub);have oV:ah (World.setCell (World.setCell (World.setCell (World.setCell (World.setCell (World.setCell (World.setCell C _ _) _ _) _ _) _ _) _ _) _ _) _ _) (lo+1) 126 #[.int .i64 x.kind,.int .i64 x.br,.int .u64 x.life,.int .u64 x.bY,.int .i64 x.cl,.int .u64 x.sub,.slice j x.f.length t,.slice none 0 0]:=iL.aP 6 (.slice j x.f.length t);have jP:ah (World.setCell (World.setCell (World.setCell (World.setCell (World.setCell (World.setCell (World.setCell (World.setCell C _ _) _ _) _ _) _ _) _ _) _ _) _ _) _ _) (lo+1) 126 #[.int .i64 x.kind,.int .i64 x.br,.int .u64 x.life,.int .u64 x.bY,.int .i64 x.cl,.int .u64 x.sub,.slice j x.f.length t,.slice B es.length c5]:=oV.aP 7 (.slice B es.length c5);have U9:=(((((((((aK.rf wA.heap.size none C).tr (aK.set (b:=lo+1) E 0 (.int .i64 x.kind))).tr (aK.set (b:=lo+1) E 1 (.int .i64 x.br))).tr (aK.set (b:=lo+1) E 2 (.int .u64 x.life))).tr (aK.set (b:=lo+1) E 3 (.int .u64 x.bY))).tr (aK.set (b:=lo+1) E 4 (.int .i64 x.cl))).tr (aK.set (b:=lo+1) E 5 (.int .u64 x.sub))).tr (aK.set (b:=lo+1) E 6 (.slice j x.f.length t))).tr (aK.set (b:=lo+1) E 7 (.slice B es.length c5)));have K9:=(K.set (K.set (K.set (K.set (K.set (K.set (K.set (K.set kE (r:=lo+1) D 0 (.int .i64 x.kind)) (r:=lo+1) D 1 (.int .i64 x.br)) (r:=lo+1) D 2 (.int .u64 x.life)) (r:=lo+1) D 3 (.int .u64 x.bY)) (r:=lo+1) D 4 (.int .i64 x.cl)) (r:=lo+1) D 5 (.int .u64 x.sub)) (r:=lo+1) D 6 (.slice j x.f.length t)) (r:=lo+1) D 7 (.slice B es.length c5));clear q y z dH hr1 T S Q iL oV;generalize (World.setCell (World.setCell (World.setCell (World.setCell (World.setCell (World.setCell (World.setCell (World.setCell C _ _) _ _) _ _) _ _) _ _) _ _) _ _) _ _)=W9 at *;have e9:=jP.cell;refine bodyPost_ret (v:=.agg #[.int .i64 x.kind,.int .i64 x.br,.int .u64 x.life,.int .u64 x.bY,.int .i64 x.cl,.int .u64 x.sub,.slice j x.f.length t,.slice B es.length c5]) aiz rfl ?_;refine⟨_,rfl,?_,K9⟩;rw[Ke.aa];exact⟨_,_,rfl,mo af (fQ.up YM (U9.more af (λ_ _ _=>aj))),aV.low (aV.floor (YL.up (aD _) (U9.more af (λ_ _ _=>aj))) af) af⟩
 have hkb:(x.kind==1)=true:=sN
 have Bt:=ae (HCF.aa hk)
 have GW:Hid (R={ x with es:=x.es.filter (anyS (qC l cs)) }):=ae (by rw[Tf.aa,if_pos hk])
 have q0:=hb.cell
 have C1:=ae (CF.aa w1 k1)
 clear hk HCF Tf CF
 go_wp2_with fail
 apply bN C1.aa
 rintro v2 w2⟨Mw,k2⟩
 obtain⟨A2,c2,rfl⟩:=av Mw
 have hb2:=hb.ay k2
 have T:=J.ay k2
 have bB:=k1.tr k2
 clear C1 hb J q0
 go_upto_region 3 with fail
 have iO:=ah.new w2 206 #[.slice A2 RF.length c2]
 have F:=iO.aS
 have bP:=hb2.ay F
 have S:=T.ay F
 have lF:=bB.tr F
 have H3:=ae (bj Mw F)
 have hz2:=k2.size
 clear hb2 T Mw
 generalize w2.alloc _=w3 at *
 generalize w2.heap.size=g3 at iO hz2⊢
 have JI:=(IY HE.aa).st lF
 have C2:=ae (acq (λk=>w.heap.size<=k) x.es _ (jN RF) 256 #[.pointer (some ⟨g3,0,none⟩)] w3 JI Y.aa.2.1 (λ_ _=>cC) λW k e he u hu=>asf RF e _ u g3 W (bj H3.aa k) (iO.ay k) hu Te.aa.1 Te.aa.2 (Y.aa.2.2 e he))
 have q3:=bP.cell
 clear JI
 go_wp2_with fail
 apply bN C2.aa
 rintro v4 w4⟨cY,k4⟩
 obtain⟨es,H⟩:∃es,es=x.es.filter (jN RF):=⟨_,rfl⟩
 have Ke:Hid (R={ x with es:=es }):=ae (by rw[GW.aa,H,Bt.aa])
 have kQ:es.length<=1000000:=by rw[H];exact bo (lQ _ _) Y.aa.2.1
 have fg:∀e∈es,e.length<=1000000:=by rw[H];exact λe he=>Y.aa.2.2 e (List.mem_filter.1 he).1
 rw[<- H]at cY
 have hb4:=bP.ay k4
 have Q:=S.ay k4
 have tv:=lF.tr k4
 have iQ:=k4.size
 have gF:=iO.lt
 clear C2 q3 bP S H GW Bt
 have bS:=cY.blk
 obtain⟨A4,c4,rfl⟩:=cY.slice
 have q:=hb4.cell
 have z:=hb4.frozen
 go_upto_region 4 with fail
 have L:ah (w4.setCell ⟨lo,7,none⟩ (.slice A4 es.length c4)) lo 126 (aE x (.slice V x.f.length U) (.slice A4 es.length c4)):=hb4.aP 7 _
 have J:=Q.far (p:=⟨lo,7,none⟩) aj (.slice A4 es.length c4)
 have kA:K w (w4.setCell ⟨lo,7,none⟩ (.slice A4 es.length c4)):=K.set tv LJ 7 _
 have hle:aq cI es (.slice A4 es.length c4) (w4.setCell ⟨lo,7,none⟩ (.slice A4 es.length c4)):=(cY.to (X:=λk=>k=lo) (Y':=λ_=>False) (ag.bK (X:=λk=>k=lo) rfl 7 _) (λk hk=>by rw[hk,lL.aa];exact aD _) (λk hk e=>aB) (λk _ hk=>hk.elim)).aq
 have uB:lo+1<(w4.setCell ⟨lo,7,none⟩ (.slice A4 es.length c4)).heap.size:=by have:=Q.lt;simpa using this
 clear hb4 Q cY q z tv bB lF k1 YJ hz1 iO H3 Te F k2 k4 bS gF hz2 iQ HE
 generalize w4.setCell _ _=wA at *
 have CE:=ae (Um es _ wA hle kQ fg)
 have q:=L.cell
 go_wp2_with fail
 apply bN CE.aa
 rintro v5 G⟨Z,F⟩
 have M:=L.ay F
 have Oe:=J.ay F
 have N5:=kA.size
 have hzB:=F.size
 clear CE q L J hle
 have q:=M.cell
 have z:=M.frozen
 obtain⟨B,c5,rfl⟩:=av Z.sw.aq
 go_upto_region 5 with fail
 have Ht:ah (G.setCell ⟨lo,7,none⟩ (.slice B es.length c5)) lo 126 (aE x (.slice V x.f.length U) (.slice B es.length c5)):=M.aP 7 _
 have Og:=Oe.far (p:=⟨lo,7,none⟩) aj (.slice B es.length c5)
 have kC:K w (G.setCell ⟨lo,7,none⟩ (.slice B es.length c5)):=K.set (kA.tr F) LJ 7 _
 have MG:=Z.up (w':=G.setCell ⟨lo,7,none⟩ (.slice B es.length c5)) (aD _) (aK.set af 7 _)
 have hzC:(G.setCell ⟨lo,7,none⟩ (.slice B es.length c5)).heap.size=G.heap.size:=aj
 clear M Oe Z q z
 generalize G.setCell _ _=wC at *
 have CT:=ae (Uv x.f _ wC (eu _ _ _ _ HF.aa kC) (Y.aa.1))
 have q:=Ht.cell
 go_wp2_with fail
 apply bN CT.aa
 rintro v6 I⟨Hu,O⟩
 have N:=Ht.ay O
 have Oh:=Og.ay O
 have MH:=MG.st O
 clear CT q Ht Og MG
 have q:=N.cell
 have z:=N.frozen
 have YK:=b5 (xc Hu)
 obtain⟨j,t,rfl⟩:=YK
 go_upto_region 6 with fail
 have hxE:ah (I.setCell ⟨lo,6,none⟩ (.slice j x.f.length t)) lo 126 (aE x (.slice j x.f.length t) (.slice B es.length c5)):=N.aP 6 _
 have Hv:=Oh.far (p:=⟨lo,6,none⟩) aj (.slice j x.f.length t)
 have kE:K w (I.setCell ⟨lo,6,none⟩ (.slice j x.f.length t)):=K.set (kC.tr O) LJ 6 _
 have YL:=MH.up (w':=I.setCell ⟨lo,6,none⟩ (.slice j x.f.length t)) (aD _) (aK.set af 6 _)
 have YM:fQ (I.setCell ⟨lo,6,none⟩ (.slice j x.f.length t)) wC.heap.size (.slice j x.f.length t) x.f:=fQ.up Hu (aK.set af 6 _)
 clear N Oh MH Hu q z
 generalize I.setCell _ _=C at *
 have q:=hxE.cell
 have y:=Hv.cell
 have z:=Hv.frozen
 have D:w.heap.size<=lo+1:=by rw[lL.aa];omega
 have E:=uB
 go_wp2
 have dH:ah (World.setCell C _ _) (lo+1) 126 #[.int .i64 x.kind,.int .i64 0,.int .u64 0,.int .u64 0,.int .i64 0,.int .u64 0,.slice none 0 0,.slice none 0 0]:=Hv.aP 0 (.int .i64 x.kind)
 have hr1:ah (World.setCell (World.setCell C _ _) _ _) (lo+1) 126 #[.int .i64 x.kind,.int .i64 x.br,.int .u64 0,.int .u64 0,.int .i64 0,.int .u64 0,.slice none 0 0,.slice none 0 0]:=dH.aP 1 (.int .i64 x.br)
 have T:ah (World.setCell (World.setCell (World.setCell C _ _) _ _) _ _) (lo+1) 126 #[.int .i64 x.kind,.int .i64 x.br,.int .u64 x.life,.int .u64 0,.int .i64 0,.int .u64 0,.slice none 0 0,.slice none 0 0]:=hr1.aP 2 (.int .u64 x.life)
 have S:ah (World.setCell (World.setCell (World.setCell (World.setCell C _ _) _ _) _ _) _ _) (lo+1) 126 #[.int .i64 x.kind,.int .i64 x.br,.int .u64 x.life,.int .u64 x.bY,.int .i64 0,.int .u64 0,.slice none 0 0,.slice none 0 0]:=T.aP 3 (.int .u64 x.bY)
 have Q:ah (World.setCell (World.setCell (World.setCell (World.setCell (World.setCell C _ _) _ _) _ _) _ _) _ _) (lo+1) 126 #[.int .i64 x.kind,.int .i64 x.br,.int .u64 x.life,.int .u64 x.bY,.int .i64 x.cl,.int .u64 0,.slice none 0 0,.slice none 0 0]:=S.aP 4 (.int .i64 x.cl)
 have iL:ah (World.setCell (World.setCell (World.setCell (World.setCell (World.setCell (World.setCell C _ _) _ _) _ _) _ _) _ _) _ _) (lo+1) 126 #[.int .i64 x.kind,.int .i64 x.br,.int .u64 x.life,.int .u64 x.bY,.int .i64 x.cl,.int .u64 x.sub,.slice none 0 0,.slice none 0 0]:=Q.aP 5 (.int .u64 x.sub)
 have oV:ah (World.setCell (World.setCell (World.setCell (World.setCell (World.setCell (World.setCell (World.setCell C _ _) _ _) _ _) _ _) _ _) _ _) _ _) (lo+1) 126 #[.int .i64 x.kind,.int .i64 x.br,.int .u64 x.life,.int .u64 x.bY,.int .i64 x.cl,.int .u64 x.sub,.slice j x.f.length t,.slice none 0 0]:=iL.aP 6 (.slice j x.f.length t)
 have jP:ah (World.setCell (World.setCell (World.setCell (World.setCell (World.setCell (World.setCell (World.setCell (World.setCell C _ _) _ _) _ _) _ _) _ _) _ _) _ _) _ _) (lo+1) 126 #[.int .i64 x.kind,.int .i64 x.br,.int .u64 x.life,.int .u64 x.bY,.int .i64 x.cl,.int .u64 x.sub,.slice j x.f.length t,.slice B es.length c5]:=oV.aP 7 (.slice B es.length c5)
 have U9:=(((((((((aK.rf wA.heap.size none C).tr (aK.set (b:=lo+1) E 0 (.int .i64 x.kind))).tr (aK.set (b:=lo+1) E 1 (.int .i64 x.br))).tr (aK.set (b:=lo+1) E 2 (.int .u64 x.life))).tr (aK.set (b:=lo+1) E 3 (.int .u64 x.bY))).tr (aK.set (b:=lo+1) E 4 (.int .i64 x.cl))).tr (aK.set (b:=lo+1) E 5 (.int .u64 x.sub))).tr (aK.set (b:=lo+1) E 6 (.slice j x.f.length t))).tr (aK.set (b:=lo+1) E 7 (.slice B es.length c5)))
 have K9:=(K.set (K.set (K.set (K.set (K.set (K.set (K.set (K.set kE (r:=lo+1) D 0 (.int .i64 x.kind)) (r:=lo+1) D 1 (.int .i64 x.br)) (r:=lo+1) D 2 (.int .u64 x.life)) (r:=lo+1) D 3 (.int .u64 x.bY)) (r:=lo+1) D 4 (.int .i64 x.cl)) (r:=lo+1) D 5 (.int .u64 x.sub)) (r:=lo+1) D 6 (.slice j x.f.length t)) (r:=lo+1) D 7 (.slice B es.length c5))
 clear q y z dH hr1 T S Q iL oV
 generalize (World.setCell (World.setCell (World.setCell (World.setCell (World.setCell (World.setCell (World.setCell (World.setCell C _ _) _ _) _ _) _ _) _ _) _ _) _ _) _ _)=W9 at *
 have e9:=jP.cell
 refine bodyPost_ret (v:=.agg #[.int .i64 x.kind,.int .i64 x.br,.int .u64 x.life,.int .u64 x.bY,.int .i64 x.cl,.int .u64 x.sub,.slice j x.f.length t,.slice B es.length c5]) aiz rfl ?_
 refine⟨_,rfl,?_,K9⟩
 rw[Ke.aa]
 exact⟨_,_,rfl,mo af (fQ.up YM (U9.more af (λ_ _ _=>aj))),aV.low (aV.floor (YL.up (aD _) (U9.more af (λ_ _ _=>aj))) af) af⟩
def wZ(par ai:List Int)(k:Int)(j:Nat):List Int:=((List.range j).filter λc=>match ai[c]? with|some h=>Df par k h|none=>false).map λ(c:Nat)=>(c:Int)
theorem aoR{par ai:List Int}{k:Int}{j:Nat}(h:j<ai.length):wZ par ai k (j+1)=if Df par k ai[j]then wZ par ai k j++[(j:Int)]else wZ par ai k j:=by unfold wZ;rw[List.range_succ,List.filter_append,List.map_append];have t:ai[j]?=some ai[j]:=List.getElem?_eq_getElem h;cases hu:Df par k ai[j] <;> simp[t,hu]
theorem ab6 par ai k j:(wZ par ai k j).length<=j:=by
 grind [wZ]
theorem aol{M p B w}(h:bA M p B w)(E:bC B) t :
 Calls prog 160 #[.pointer (some ⟨p.g,0,none⟩),.int .i64 t] w λe w'=>∃v',e=.returned v'/\aC (λk=>k<w.heap.size) w.heap.size 3 cL (uT B t) v' w'/\K w w':=by
 have HR:Hid (uT B t=wZ B.par B.ai t B.ai.length):=ae rfl
 have:=K5 E.hm
 have:=(rU E.tr).2
 have y:=ae λW (k:K w W)=>(h.bF.at k).par
 have L:=h.bF.now.ai
 have q:=h.q
 obtain⟨g,gl,gd,gr,gt,vd,vr,vp,vh,vl,vq,va,vt,vf,vw,kr⟩:=p
 simp only at q L y
 have hvp:=av (y.aa w (K.rf w))
 obtain⟨Ap,cp,rfl⟩:=hvp
 have CU:=ae λW (k:K w W) b=>atj B.par t b _ W (y.aa W k) af
 generalize uT B t=R at *
 obtain⟨A,c1,rfl,hl,-⟩:=L
 have C:=K.rf w
 have X:=aC.nil (λk=>k<w.heap.size) w.heap.size 3 cL w
 have q1:=q w C
 clear h E y
 go_in
 go_wp2_with fail
 clear q1
 go_loopw [5,6,7,13] (fun vo _ _ i W=>∃j:Nat,j<=B.ai.length/\i=.int .i64 j/\aC (fun k=>k<w.heap.size) w.heap.size 3 cL (wZ B.par B.ai t j) vo W/\K w W) (fun _ _ _ i _=>B.ai.length-(intOf i).toNat)
 case atStart=>exact⟨0,af,rfl,X,C⟩
 case round =>
  clear X C;obtain⟨j,hj,rfl,hO,kr⟩:=hrel;by_cases H:j<B.ai.length
  ·have aO:(j:Int)<B.ai.length:=af;obtain⟨b1,off,rfl,O⟩:=ints_at hl af;have q2:=O wr kr j H;have q3:=q wr kr;have Q:=ae (aoR (par:=B.par) (k:=t) H);have:=ab6 B.par B.ai t j;generalize B.ai[j]=hm at *;have Z:=ae (CU.aa wr kr hm);generalize wZ B.par B.ai t j=o at *;obtain⟨J,T,rfl⟩:=hO.slice;clear O;go_wp2_with fail
   apply cF Z.aa kr;intro U k2 qO;have D:=hO.st k2;clear Z q2 q3 hO;cases hu:Df B.par t hm
   ·have y:Hid (wZ B.par B.ai t (j+1)=o):=ae (by rw[Q.aa,hu];rfl);clear hu;go_wp2;go_roundw
    case rel=>exact⟨j+1,af,bD,by rw[y.aa];exact D,qO⟩
    case measure=>simp[intOf];omega
   have y:Hid (wZ B.par B.ai t (j+1)=o++[(j:Int)]):=ae (by rw[Q.aa,hu];rfl);have V:=ez.new (S:=cL) (e:=3) (x:=(j:Int)) (v:=.int .i64 j) (w:=U) (N:=λk=>k<w.heap.size∨(Value.slice J o.length T).ownBlock=some k) (λW u=>rfl) 0 (eE _);have Y:=K.new U (.cells #[.int .i64 j] 3);have I:=D.st Y;have G:=qO.tr Y;have pV:=G.size;clear D hu;go_wp2_with (at_builtin;refine jz rfl _ _ 23 rfl _ 1 8 Dh rfl rfl I _ rfl (j:Int) ?p1 ?p2 ?p3 ?_)
   case p1=>exact V
   case p2=>omega
   case p3=>simpa using pV
   intro v9 w9 bE cd eS F;have wP:=G.trans F;clear V I cd eS F;go_wp2;go_roundw
   case rel=>exact⟨j+1,af,bD,by rw[y.aa];exact bE,wP⟩
   case measure=>simp[intOf];omega
  ·have aO:¬(j:Int)<B.ai.length:=af;obtain rfl:j=B.ai.length:=af;rw[<- HR.aa]at hO;obtain⟨J,T,rfl⟩:=hO.slice;exact Qm
def qF(L:List aL)(cs:List Int)(n j:Nat)(l:List aL):List aL:=l.zipIdx.map λp=>if p.2<j then jD (jW (L.take (n+p.2))) cs p.1 else p.1
theorem at2 L cs n l:qF L cs n 0 l=l:=by simp[qF]
theorem FH L cs n j l:(qF L cs n j l).length=l.length:=by simp[qF]
theorem axs L cs n j l(h:j<l.length):(qF L cs n j l)[j]'(by rw[FH];exact h)=l[j]:=by
 grind [qF]
theorem aFa L cs n j l i:(qF L cs n j l)[i]?=(l[i]?).map λx=>if i<j then jD (jW (L.take (n+i))) cs x else x:=by
 grind [qF,jD,jW]
theorem at3 L cs n j l(h:j<l.length):qF L cs n (j+1) l=(qF L cs n j l).set j (jD (jW (L.take (n+j))) cs l[j]):=by
 apply List.ext_getElem?
 intro i
 grind [qF,jD,jW]
theorem avT B cs n l:qF B.st.list cs n l.length l=AO B cs n l:=by
 grind [qF,AO,List.map_congr_left,List.mem_zipIdx]
theorem avU{l}(h:∀x∈l,bH x=true):∀s∈jW l,okF s.f=true:=by
 have key:∀(l:List aL) (o:List lB),(∀x∈l,bH x=true)->(∀s∈o,okF s.f=true)->∀s∈l.foldl kI o,okF s.f=true:=by
  intro l
  induction l with
  | nil=>intro o _ ho;exact ho
  | cons x l t =>
   intro o j ho;refine t _ (λy hy=>j y IE) ?_;unfold kI;split
   ·exact ho
   unfold tS;split
   ·rename_i u;intro s hs;simp only[Co,List.mem_singleton]at hs;rcases hs with (hs|rfl)|hs
    ·exact QJ
    ·rcases (DI (j x aj)).2.2 with ⟨g,-⟩|⟨g,-⟩|⟨-,-,g⟩
     ·omega
     ·omega
     ·exact g
    ·exact QJ
   ·split
    ·intro s hs;rcases List.mem_append.1 hs with hs|hs
     ·exact QJ
     ·exact QJ
    ·exact ho
 exact key l [] h λs hs=>by simp at hs
theorem ayA(n:Nat)(h:n<=1000000):IntKind.i64.wrap (n:Int)=n:=by rw[IntKind.wrap_i64];omega
theorem ajP(n:Nat)(h:n<=1000000):IntKind.u64.wrap (n:Int)=n:=by show (n:Int)%2^64=_;omega
theorem avV{B B' x v W w}(h:vN B x v w)(hb:B'<=B)(k:K W w):∃v',Ending.returned v=.returned v'/\(∃vf j,v'=.agg (aE x vf j)/\Fx (λk=>k<B') (λW=>aW.rel x (aE x vf j).toList W) w)/\K W w:=by obtain⟨vf,j,e,h⟩:=Ca h;exact⟨_,rfl,⟨vf,j,e,h.less λk hk=>bw hk hb⟩,k⟩
theorem aom{M p B w}(h:bA M p B w)(I:bC B)(hn:B.told.Nodup)(im:B.told.length<=800000) t :
 Calls prog 95 #[.pointer (some ⟨p.g,0,none⟩),.int .i64 t] w λe w'=>∃v',e=.returned v'/\lI (tK B t) v' w'/\K w w':=by
 have Th:Hid (tK B t=⟨2,pE B t,[],[],AO B (uT B t) (pE B t) (yJ B.st.list (pE B t)),((if nh B then B.waits else B.st.prom).take 16).map (jD (jW B.st.list) (uT B t)),tW (Ci B) (iK B t).asks,tV B.st B.waits (iK B t)⟩):=ae rfl
 have aFL:=I.ajO t
 have hinv:=I.dk.inv
 have je:=I.Ed
 have hlen:=I.dk.len
 have hwl:=I.y5
 have hhv:pE B t<=B.st.list.length:=Nat.min_le_right _ _
 have HH:Hid (pE B t=min (iK B t).got B.st.list.length):=ae rfl
 have q:=h.q
 have Q1:=ae λW (k:K w W)=>(DN (Es (P:=prog) (kt:=3) underlying3) underlying159 (ajM W) (h.rep.st k) t).2
 have HM:Hid (∀W,K w W->lI (iK B t) ((cT p.kr t).getD (.agg Dq)) W):=ae λW k=>(h.bF.at k).bI.look t
 have CC:=ae λW (k:K w W)=>aol (h.st k) I t
 have CS:=ae λW (k:K w W) n hn=>acu (h.st k) I n hn
 have CF:=ae λW (k:K w W)=>asd B.st.list (pE B t) p.vl W (h.bF.at k).list je.1 af af
 have CK:=ae λW (k:K w W)=>apd (h.st k) I hn
 have CR:=ae λW (k:K w W)=>O2 (h.st k)
 have HD:=ae λW (k:K w W)=>h.bF.at k
 have HSO:=ae λn=>avU (l:=B.st.list.take n) λx hx=>(hinv.zA x (nQ hx)).1
 have Ti:=ae λn=>UZ (B.st.list.take n)
 have qG:(Ci B).length<=1000000:=by unfold Ci;rw[dq];omega
 have HOL:=ae hinv.zA
 have HOP:=ae hinv.zB
 have HOW:=ae I.waits
 have hcl:(uT B t).length<=32:=by have:=ab6 B.par B.ai t B.ai.length;have:=(K5 I.hm).2;show (wZ B.par B.ai t B.ai.length).length<=32;omega
 have HCA:Hid (∀j l,j=l.length->qF B.st.list (uT B t) (pE B t) j l=AO B (uT B t) (pE B t) l):=ae λj l e=>by rw[e];exact avT B _ _ l
 have cN:∀x∈yJ B.st.list (pE B t),x∈B.st.list:=λx hx=>List.mem_of_mem_drop (nQ hx)
 have hfn:(yJ B.st.list (pE B t)).length+pE B t<=B.st.list.length:=by unfold yJ;simp;omega
 have GX:=ae cN
 generalize tK B t=R at *
 generalize uT B t=cs at *
 generalize Ci B=kn at *
 generalize pE B t=C at *
 generalize iK B t=A at *
 generalize yJ B.st.list C=es at *
 obtain⟨g,gl,gd,gr,gt,vd,vr,vp,vh,vl,vq,va,vt,vf,vw,kr⟩:=p
 simp only at q Q1 HM CC CS CF CK CR HD
 have sK:=HD.aa w (K.rf w)
 obtain⟨Al,cl,rfl⟩:=av sK.list
 obtain⟨Aq,cq,rfl⟩:=av sK.prom
 obtain⟨Aa,ca,rfl⟩:=av sK.ab
 obtain⟨Aw,cw,rfl⟩:=av sK.waits
 obtain⟨m1,m2,m3,m4,m5,m6,em,mH,hm2,xG,Bm,Jr,CZ⟩:=HM.aa w (K.rf w)
 obtain⟨A1,c1,rfl⟩:=av mH
 obtain⟨A2,c2,rfl⟩:=av hm2
 obtain⟨A3,c3,rfl⟩:=av xG
 obtain⟨A4,c4,rfl⟩:=av Bm
 obtain⟨A5,c5,rfl⟩:=av Jr
 obtain⟨A6,c6,rfl⟩:=av CZ
 rw[em]at HM Q1
 have Nq:=ah.new w 156 Dq
 have F:=Nq.aS
 simp only[encI]at Q1
 clear h I hn sK em mH hm2 xG Bm Jr CZ hinv cN
 go_in
 go_upto_region 1 with fail
 generalize w.alloc _=w1 at *
 generalize sq:w.heap.size=gz at Nq⊢
 have HGZ:=ae sq
 clear sq
 have ql:=Q1.aa w1 F
 have hx:=ah.new w1 156 (kj A (.slice A1 A.cG.length c1) (.slice A2 A.asks.length c2) (.slice A3 A.entries.length c3) (.slice A4 A.eD.length c4) (.slice A5 A.dF.length c5) (.slice A6 A.ends.length c6))
 have k2:=hx.aS
 go_upto_region 2 with fail
 have akT:=Nq.ay k2
 have lK:=F.tr k2
 generalize World.alloc w1 _=w2 at *
 generalize Dp:w1.heap.size=gx at hx⊢
 clear ql Dp Nq
 go_wp2_with fail
 apply bN (CC.aa w2 lK)
 rintro v7 w3⟨km,k3⟩
 have Tj:=ae λW (k:K w3 W)=>bj km.aq k
 obtain⟨A7,c7,rfl⟩:=km.slice
 have ox:=lK.tr k3
 have fM:=hx.ay k3
 have akU:=akT.ay k3
 have qx:=fM.cell
 have hw:=ajP B.st.list.length af
 have CF3:=ae (CF.aa w3 ox)
 clear CC CF Q1 km hx akT
 go_wp2_with fail
 rw[show min ((A.got:Nat):Int) ((B.st.list.length:Nat):Int)=(C:Int) by rw[HH.aa];omega]
 apply bN CF3.aa
 rintro v9 w4⟨H,k4⟩
 obtain⟨Q,O,rfl⟩:=H.slice
 have kk:=k4
 have D:aC (λk=>k<w3.heap.size) w3.heap.size 126 aW (qF B.st.list cs C 0 es) (.slice Q es.length O) w4:=by rw[at2];exact H
 clear CF3 qx hw k4 H HH
 go_wp2_with fail
 go_loopw [10,11,46] (fun _ _ i W=>∃j:Nat,j<=es.length/\i=.int .i64 j/\aC (fun k=>k<w3.heap.size) w3.heap.size 126 aW (qF B.st.list cs C j es) (.slice Q es.length O) W/\K w3 W) (fun _ _ i _=>es.length-(intOf i).toNat)
 case atStart=>exact⟨0,af,rfl,D,kk⟩
 case round =>
  clear D kk;obtain⟨j,hj,rfl,D,kr⟩:=hrel;by_cases hlt:j<es.length
  ·have aO:(j:Int)<es.length:=af;obtain⟨go,cap,e9,hgo⟩:∃go cap,Value.slice Q es.length O=.slice (some ⟨go,0,none⟩) es.length cap/\w3.heap.size<=go:=by
    obtain⟨css,hrow,-,-⟩:=D;rcases hrow.2 with ⟨-,h0⟩|⟨go,cap,cur,e,hg,-⟩
    ·rw[FH]at h0;omega
    ·rw[FH]at e;exact⟨go,cap,e,hg⟩
   injection e9 with J _ e3;subst J e3;have Tg:j<(qF B.st.list cs C j es).length:=by rw[FH];exact hlt
   obtain⟨A0,c0,e0,qH,-⟩:=D.aq;injection e0 with e0 _ _;subst e0;obtain⟨b1,off,cs9,e9,iD,hrl,d0,d⟩:=ed qH j Tg ax;cases e9;have HS:=ae (at3 B.st.list cs C j es hlt);have SI:=hrl wr (K.rf wr);rw[axs _ _ _ _ _ hlt]at SI;have hxL:=GX.aa _ (bT hlt);have hxo:=HOL.aa _ hxL;generalize es[j]=x at *;obtain⟨Bw,Bz,rfl,hf,he⟩:=SI;have HE:Hid (∀W,K wr W->dx x (.agg (aE x Bw Bz)) W):=ae λW k=>⟨_,_,rfl,eu _ _ _ _ hf k,bj he k⟩
   have q:∀i,i<8->wr.cell? ⟨go,j*8+i,none⟩=(aE x Bw Bz)[i]?:=λi hi=>by have:=d wr (K.rf wr) i hi;rw[mz]at this;exact this.trans Array.getElem?_toList
   have q0:wr.cell? ⟨go,j*8,none⟩=some (.int .i64 x.kind):=q 0 ax;have HQ:Hid (∀W,K wr W->∀i,i<8->W.cell? ⟨go,j*8+i,none⟩=(aE x Bw Bz)[i]?):=ae λW k i hi=>by have:=d W k i hi;rw[mz]at this;exact this.trans Array.getElem?_toList
   have sF:=ah.new wr 126 (aE x Bw Bz);have L:=sF.aS;obtain⟨Af,cf,rfl⟩:=b5 hf;obtain⟨Ae,Z,rfl⟩:=av he;have HO:=ae D;clear d d0 hf he hrl iD qH D;go_upto_region 9 with fail;generalize wr.alloc _=w6 at *;have ot:=kr.tr L;have k16:=ox.tr ot;have Js:C+j<=B.st.list.length:=af;have hwi:=ayA C af;have hwj:IntKind.i64.wrap ((C:Int)+j)=(C:Int)+j:=LK;have C1:=ae λW k=>by have:=CS.aa W k (C+j) Js;rw[Int.natCast_add]at this;exact this
   have kP:=Ti.aa (C+j);have sC:=HSO.aa (C+j);simp only[p8]at kP;have C2:=ae λvS W (k:K w6 W) (hS:aq iz (jW (B.st.list.take (C+j))) vS W)=>adW (jW (B.st.list.take (C+j))) cs x vS _ _ W hS (Tj.aa W (ot.tr k)) (HE.aa W (L.tr k)) af af sC hxo.1
   generalize jW (B.st.list.take (C+j))=sj at *;generalize jD sj cs x=y at *;have qx8:=sF.cells;clear q q0 kP sC;have qs:=And.intro hwi (And.intro hwj qx8);refine dK 11 ?_;iterate 7 refine ar.i ?_
   refine ar.c (λv W=>aq iz sj v W) (λ_ _ _ h k=>bj h k) (λW k=>(C1.aa W (k16.tr k)).mono λe w' ⟨v,J,T,F⟩=>⟨v,J,T.aq,F⟩) ?_;iterate 2 refine ar.i ?_
   refine ar.d (λv W=>∃vf ve,v=.agg (aE y vf ve)/\Fx (λk=>k<w6.heap.size) (λW=>aW.rel y (aE y vf ve).toList W) W) (λ_ _ _ ⟨vf,ve,e,h⟩ k=>⟨vf,ve,e,h.k k⟩) (λV W k hp=>(C2.aa _ W k (hp 7 aj)).mono λe w' ⟨v,J,T,F⟩=>J▸avV T k.size F) ?_;intro V W kW hA;simp only[aN,aQ,b6,aJ,Nat.reduceAdd]at hA;obtain⟨f0,f1,-,-,-,-,-,-,-,-,⟨oB,oC,f10,hF⟩,-⟩:=hA;have hfn:=hF.now;obtain⟨JS,JT,e3,Tk,Tm⟩:=hfn;cases e3;obtain⟨zI,zJ,rfl⟩:=b5 Tk;obtain⟨wL,wM,rfl⟩:=av Tm;have kF:K wr W:=L.tr kW;have H:=HO.aa.st kF;have hfz:∀i,W.frozen? ⟨go,i,none⟩=false:=by obtain⟨css,hrow,-,-⟩:=H;rw[FH]at hrow;exact (Fv hrow).2
   have hq:=HQ.aa W kF;have EG:W.cell? ⟨go,j*8,none⟩=some (.int .i64 x.kind):=hq 0 ax;refine aH.pure (.pointer (some ⟨go,j*8,none⟩)) rfl (by simp[aF,List.lookup,ba,f0,f1,execOp,aG,aO,go_sem]) ?_;refine aH.skip (dY W go (j*8) [.int .i64 y.kind,.int .i64 y.br,.int .u64 y.life,.int .u64 y.bY,.int .i64 y.cl,.int .u64 y.sub,.slice zI y.f.length zJ,.slice wL y.es.length wM]) rfl (by simp[aF,List.lookup,ba,f10,execOp,aG,hq,EG,hfz,dY,go_sem]) ?_;refine aH.e ?_;have gF:=(HO.aa.blk go rfl).2;have pV:=L.size;have Fb:=kW.size;have u9:ag (λk=>k=go) W (dY W go (j*8) [.int .i64 y.kind,.int .i64 y.br,.int .u64 y.life,.int .u64 y.bY,.int .i64 y.cl,.int .u64 y.sub,.slice zI y.f.length zJ,.slice wL y.es.length wM]):=ag.sets (X:=λk=>k=go) (g:=go) rfl _ _ W;have J8:=(hF.up u9 λk e=>QK).less (N:=λk=>k<w3.heap.size∨k=go) λk hk=>by have:=ot.size;rcases hk with hk|hk <;> omega
   rw[show es.length=(qF B.st.list cs C j es).length from (FH _ _ _ _ _).symm]at H;have nY:=H.YN (j:=j) Tg (y:=y) rfl J8;rw[<- HS.aa,FH]at nY;have kF9:=u9.k (ot.tr kW) λk e=>by subst e;exact hgo
   clear hq EG hfz hF H f0 f1 qs f10 qx8 J8 u9;go_wp2;go_roundw
   case rel=>exact⟨j+1,af,bD,nY,kF9⟩
   case measure=>simp[intOf];omega
  ·have aO:¬(j:Int)<es.length:=af;obtain rfl:j=es.length:=af;rw[HCA.aa _ _ rfl]at D;have hce:(AO B cs C es).length=es.length:=by simp[AO]
   have Tn:=ae hce;have kU:=ae (D.fx λk hk=>hk);rw[<- hce]at kU;obtain⟨u,Jh⟩:∃u,u=if nh B then B.waits else B.st.prom:=⟨_,rfl⟩
   obtain⟨Am,cm,hmt,Ny,vW,hmo⟩:∃Am cm,(nh B=true->Value.slice Aw B.waits.length cw=.slice Am u.length cm)/\(nh B=false->Value.slice Aq B.st.prom.length cq=.slice Am u.length cm)/\(∀W,K w W->aq aW u (.slice Am u.length cm) W)/\∀x∈u,bH x=true/\cE x:=by
    cases hr:nh B
    ·rw[hr]at Jh;obtain rfl:u=B.st.prom:=Jh;exact⟨Aq,cq,λh=>yz,λ_=>rfl,λW k=>(HD.aa W k).prom,HOP.aa⟩
    ·rw[hr]at Jh;obtain rfl:u=B.waits:=Jh;exact⟨Aw,cw,λ_=>rfl,λh=>yz,λW k=>(HD.aa W k).waits,HOW.aa⟩
   rw[<- Jh]at Th;have HMT:=ae hmt;have HMF:=ae Ny;have Tp:=ae vW;have HMO:=ae hmo;have jh:=ox.tr kr;have CR7:=ae (CR.aa wr jh);clear D hce hmt Ny vW hmo Jh CR HOP HOW HOL GX;go_wp2_with fail
   apply cF CR7.aa kr;intro w7 k7 oY;have Ki:=jh.tr k7;have pP:=fM.ay oY;have aAv:=akU.ay oY;clear CR7;go_upto_if 70 with fail;go_cut [12,70]from 71 to 74 (fun v _ W=>v=.slice Am u.length cm/\w7=W)
   case first =>
    cases hr:nh B
    ·have e:=ae (HMF.aa hr);exact aiA
    ·have e:=ae (HMT.aa hr);exact aiA
   case rest =>
    obtain⟨rfl,rfl⟩:=hcut;clear HMT HMF;have C8:=ae (CS.aa w7 Ki B.st.list.length (aD _));have kP:=Ti.aa B.st.list.length;have sC:=HSO.aa B.st.list.length;rw[nc]at C8 kP sC;have wh:u.take 16=u.take (min u.length 16):=by rw[List.take_eq_take_iff];omega
    rw[wh]at Th;obtain⟨G,hnm⟩:∃G,G=min u.length 16:=⟨_,rfl⟩;rw[<- hnm]at Th;have HNM:=ae hnm;generalize jW B.st.list=sl at *;clear wh hnm;go_wp2_with fail
    apply bN C8.aa;rintro v13 E⟨Ji,L⟩;have aAw:=ae λW (k:K E W)=>bj Ji.aq k
    have kU:=ae (kU.aa.k (k7.tr L));have Tj:=ae λW (k:K E W)=>Tj.aa W ((oY.tr L).tr k)
    obtain⟨A13,c13,rfl⟩:=Ji.slice;have Oi:=Ki.tr L;have sF:=pP.ay L;have akV:=aAv.ay L;have pX:=oY.tr L;have hcm:u.length<=cm:=by obtain⟨_,_,e,-,hc⟩:=Tp.aa E Oi;injection e with _ _ e3;rw[e3];exact hc
    have aAx:min ((u.length:Nat):Int) 16=(G:Int):=Xh;have dX:G<=u.length:=Xh;have aFM:G<=16:=Xh;have hnc:(G:Int)<=cm:=af;clear C8 Ji;go_wp2_with fail
    have kk:=K.rf E;have D:=aC.nil (λk=>k<E.heap.size) E.heap.size 126 aW E;go_loopw [14,16,84] (fun o _ i W=>∃j:Nat,j<=G/\i=.int .i64 j/\aC (fun k=>k<E.heap.size) E.heap.size 126 aW ((u.take j).map (jD sl cs)) o W/\K E W) (fun _ _ i _=>G-(intOf i).toNat)
    case atStart=>exact⟨0,af,rfl,by simpa using D,kk⟩
    case round =>
     clear D kk aAx hcm hnc;obtain⟨j,hj,rfl,D,kq⟩:=hrel;by_cases vH:j<G
     ·have aAy:(j:Int)<G:=af;obtain⟨_,_,e0,qH,-⟩:=Tp.aa E Oi;injection e0 with e0 e00 e01;subst e0;clear e00 e01;have hjm:j<u.length:=af;obtain⟨b1,off,cs9,rfl,iD,hrl,d0,d⟩:=ed qH j hjm ax;have HS:Hid ((u.take (j+1)).map (jD sl cs)=(u.take j).map (jD sl cs)++[jD sl cs u[j]]):=ae (by rw[gg hjm,List.map_append];rfl);have hxo:=HMO.aa _ (bT hjm);have EJ:Hid (((u.take j).map (jD sl cs)).length=j):=ae aY;generalize u[j]=x at *;obtain⟨Bw,Bz,rfl,hf,he⟩:=hrl E (K.rf E);have HE:Hid (∀W,K E W->dx x (.agg (aE x Bw Bz)) W):=ae λW k=>⟨_,_,rfl,eu _ _ _ _ hf k,bj he k⟩
      have q:∀i,i<8->wr.cell? ⟨b1,off+j*8+i,none⟩=(aE x Bw Bz)[i]?:=λi hi=>(d wr kq i hi).trans Array.getElem?_toList
      have q0:wr.cell? ⟨b1,off+j*8,none⟩=some (.int .i64 x.kind):=d0 wr kq;have pg:=ah.new wr 126 (aE x Bw Bz);have k9:=pg.aS;obtain⟨Af,cf,rfl⟩:=b5 hf;obtain⟨Ae,Z,rfl⟩:=av he;obtain⟨Ao,U,rfl⟩:=D.slice;have bS:=D.blk;generalize (u.take j).map (jD sl cs)=o1 at *;clear d d0 hf he hrl iD qH;go_upto_region 19 with fail;generalize wr.alloc _=w9 at *;have Tq:=kq.tr k9;have qx9:=pg.cell;have H:=D.st k9;have C9:=ae (adW sl cs x _ _ _ w9 (aAw.aa w9 Tq) (Tj.aa w9 Tq) (HE.aa w9 Tq) af af sC hxo.1);have oA:=k9.size;have hzq:=kq.size;generalize jD sl cs x=y at *;clear q q0 D pg;go_wp2_with fail
      apply bN C9.aa;rintro v10 wS⟨hy,Kb⟩;obtain⟨oB,oC,rfl,hF⟩:=Ca hy;obtain⟨JS,JT,e3,Tk,Tm⟩:=hF.now;cases e3;obtain⟨zI,zJ,rfl⟩:=b5 Tk;obtain⟨wL,wM,rfl⟩:=av Tm;have mm:Fx (λk=>k<E.heap.size∨(Value.slice Ao o1.length U).ownBlock=some k) (λW=>aW.rel y (Value.agg (aE y (.slice zI y.f.length zJ) (.slice wL y.es.length wM))).cells.toList W) wS:=hF.less λk hk=>by
       rcases hk with hk|hk
       ·omega
       ·have:=(bS k hk).2;omega
      have hr:=ez.new (S:=aW) (e:=126) (v:=.agg (aE y (.slice zI y.f.length zJ) (.slice wL y.es.length wM))) mm 0 (eE _);have kA:=K.new wS (.cells (aE y (.slice zI y.f.length zJ) (.slice wL y.es.length wM)) 126);have nY:=(H.st Kb).st kA;have akW:=(Tq.tr Kb).tr kA;have N5:=akW.size;clear C9 hF mm Tk Tm hy H qx9;go_wp2_with (at_builtin;refine jz rfl _ _ 43 rfl _ 8 96 oZ rfl rfl nY _ rfl y ?p1 ?p2 ?p3 ?_)
      case p1=>exact hr
      case p2=>have:=EJ.aa;omega
      case p3=>simpa using N5
      intro v11 N4 Bb um Ge Jg;rw[<- HS.aa]at Bb;have kqF:=akW.trans Jg;clear hr nY um Ge Jg;go_wp2;go_roundw
      case rel=>exact⟨j+1,af,bD,Bb,kqF⟩
      case measure=>simp[intOf];omega
     ·have aAy:¬(j:Int)<G:=af;obtain rfl:j=G:=af;obtain⟨Ao,U,rfl⟩:=D.slice;have HPR:=ae (D.fx λk hk=>hk);have Y:=Oi.tr kq;have pg:=sF.ay kq;have aAz:=akV.ay kq;have qw:=λW (k:K wr W)=>q W (Y.tr k)
      have qx:=pg.cells;have aAA:=akU.lt;have h38:=pX.size;have h8r:=kq.size;have aAB:=ae (kU.aa.k kq);clear D kU akV sF pg;go_upto_region 21 with fail;have qs:=And.intro qw qx;refine dK 18 ?_;iterate 4 refine ar.i ?_
      refine ar.c (λv W=>aq bZ kn v W) (λ_ _ _ h k=>bj h k) (λW k=>(CK.aa W (Y.tr k)).mono λe w' ⟨v,J,T,F⟩=>⟨v,J,T.aq,F⟩) ?_;iterate 2 refine ar.i ?_
      refine ar.d (λv W=>Fx (λk=>k<wr.heap.size) (λW=>aq bZ (tW kn A.asks) v W) W) (λ_ _ _ h k=>h.k k) (λV W k hp=>(asc kn A.asks _ _ W (hp 4 aj) (by obtain⟨_,_,_,_,_,_,e,h⟩:=HM.aa W (Y.tr k);cases e;exact h.2.1) qG af).mono λe w' ⟨v,J,T,F⟩=>⟨v,J,(T.fx λ_ h=>h).less λi hi=>bw hi k.size,F⟩) ?_;iterate 9 refine ar.i ?_
      refine ar.c (λv W=>Fx (λk=>k<wr.heap.size) (λW=>aq bZ (tV B.st B.waits A) v W) W) (λ_ _ _ h k=>h.k k) (λW k=>(arY B.st B.waits A _ _ _ _ _ W ⟨_,_,_,rfl,(HD.aa W (Y.tr k)).list,(HD.aa W (Y.tr k)).prom,(HD.aa W (Y.tr k)).ab⟩ (HD.aa W (Y.tr k)).waits (HM.aa W (Y.tr k)) ⟨af,af⟩ af af).mono λe w' ⟨v,J,T,F⟩=>⟨v,J,(T.fx λ_ h=>h).less λi hi=>bw hi k.size,F⟩) ?_;intro V W kW hA;simp only[aN,aQ,b6,aJ,Nat.reduceAdd]at hA;obtain⟨f0,f1,f2,-,-,-,-,f7,-,-,-,-,-,-,-,-,-,f17,-⟩:=id hA;obtain⟨At,ct,et⟩:=av f7.now;obtain⟨Ae,Z,ee⟩:=av f17.now;rw[et]at f7;rw[ee]at f17;have Fb:=aAz.ay kW;have qz:=Fb.cell;have zz:=Fb.frozen;have Si:=ae (HPR.aa.k kW);have HE9:=ae (aAB.aa.k kW);have F7:=ae f7;have F17:=ae f17;clear f7 f17 hA qs qw qx;refine aH.pure (.agg #[.int .i64 2,.int .u64 C,.slice none 0 0,.slice none 0 0,.slice Q es.length O,.slice Ao ((u.take j).map (jD sl cs)).length U,.slice At (tW kn A.asks).length ct,.slice Ae (tV B.st B.waits A).length Z]) rfl (by simp[aF,List.lookup,f0,f1,f2,et,ee,execOp,aG,go_sem]) ?_;refine aH.skip (dY W gz 0 [.int .i64 2,.int .u64 C,.slice none 0 0,.slice none 0 0,.slice Q es.length O,.slice Ao ((u.take j).map (jD sl cs)).length U,.slice At (tW kn A.asks).length ct,.slice Ae (tV B.st B.waits A).length Z]) rfl (by simp[aF,List.lookup,ba,execOp,aG,qz,zz,dY,go_sem]) ?_;refine aH.e ?_;have uC:=FO (us:=[.int .i64 2,.int .u64 C,.slice none 0 0,.slice none 0 0,.slice Q es.length O,.slice Ao ((u.take j).map (jD sl cs)).length U,.slice At (tW kn A.asks).length ct,.slice Ae (tV B.st B.waits A).length Z]) Fb rfl;have u9:=ag.sets (X:=λk=>k=gz) (g:=gz) rfl ([.int .i64 2,.int .u64 C,.slice none 0 0,.slice none 0 0,.slice Q es.length O,.slice Ao ((u.take j).map (jD sl cs)).length U,.slice At (tW kn A.asks).length ct,.slice Ae (tV B.st B.waits A).length Z]) 0 W;have Kj:=ae (show lI R (.agg #[.int .i64 2,.int .u64 C,.slice none 0 0,.slice none 0 0,.slice Q es.length O,.slice Ao ((u.take j).map (jD sl cs)).length U,.slice At (tW kn A.asks).length ct,.slice Ae (tV B.st B.waits A).length Z]) (dY W gz 0 ([.int .i64 2,.int .u64 C,.slice none 0 0,.slice none 0 0,.slice Q es.length O,.slice Ao ((u.take j).map (jD sl cs)).length U,.slice At (tW kn A.asks).length ct,.slice Ae (tV B.st B.waits A).length Z])) by
       have g1:=(HE9.aa.up u9 λk e=>by subst e;exact aAA).now;rw[Tn.aa]at g1;rw[Th.aa];exact⟨_,_,_,_,_,_,rfl,gy _ _,gy _ _,g1,(Si.aa.up u9 λk e=>QK).now,(F7.aa.up u9 λk e=>QK).now,(F17.aa.up u9 λk e=>QK).now⟩)
      have HK:=ae (u9.k (Y.tr kW) λk e=>by have:=HGZ.aa;omega);clear u9 Fb qz zz Si HE9 F7 F17 f0 f1 f2 et ee;generalize dY W gz 0 _=W9 at *;have e9:=uC.cell;go_wp2;refine bodyPost_ret (v:=.agg #[.int .i64 2,.int .u64 C,.slice none 0 0,.slice none 0 0,.slice Q es.length O,.slice Ao ((u.take j).map (jD sl cs)).length U,.slice At (tW kn A.asks).length ct,.slice Ae (tV B.st B.waits A).length Z]) (by simp[results,results95,go_sem,e9]) rfl ?_;exact⟨_,rfl,Kj.aa,HK.aa⟩
theorem acE l v a w(h:sl l v w)(hl:l.length<=900000000)(hf:dJ a) :
 Calls prog 152 #[v,.agg (dh a)] w λe w'=>∃v',e=.returned v'/\Own w' w.heap.size 5 v' (l++fA a)/\K w w':=by
 obtain⟨A,c,rfl,J⟩:=h
 obtain⟨b,j,y⟩:=a
 obtain⟨H,B,F⟩:=hf
 simp only at H B F
 have:=cS (aZ b) (gH b)
 have p1:=cS j B
 have D:=ah.new w 26 #[.int .i64 b,.int .u64 j,.int .u64 y]
 have u:=D.aS
 have U:=(J.below u (aD _)).more u.size
 go_in
 go_upto_region 1 with fail
 generalize w.alloc _=E at *
 have:=D.cells
 have C:=K.rf E
 go_wp2_with fail
 rw[DQ b]
 apply bN (wW A _ c l (aZ b) (gH b) E _ U (aD _) af)
 rintro v2 R⟨I,t⟩
 obtain⟨A2,c2,rfl,M⟩:=(eK I)
 have:(l++az (aZ b)).length<=900000009:=aY
 generalize hm2:(l++az (aZ b)).length=Y at *
 go_wp2_with fail
 apply bN (wW A2 Y c2 _ j B R _ M (aD _) af)
 rintro v3 T⟨O,X⟩
 replace t:=t.tr X
 obtain⟨Z,c3,rfl,W⟩:=(eK O)
 have:(l++az (aZ b)++az j).length<=900000018:=aY
 generalize xG:(l++az (aZ b)++az j).length=V at *
 go_wp2_with fail
 apply bN (wW Z V c3 _ y F T _ W (aD _) af)
 rintro v4 w4⟨S,Q⟩
 have G:=mo (u.tr t).size S
 have L:l++az (aZ b)++az j++az y=l++fA (b,j,y):=by simp[fA]
 rw[L]at G
 have N:=ae G
 have C:=u.tr (t.tr Q)
 go_wp2
 go_ret
 exact⟨_,rfl,N.aa,C⟩
theorem aoS l v x w(h:sl l v w)(R:l.length<=800000000)(D:dJ x.id) :
 Calls prog 148 #[v,.agg (gV x)] w λe w'=>∃v',e=.returned v'/\Own w' w.heap.size 5 v' (l++lq x)/\K w w':=by
 have u:=ah.new w 225 (gV x)
 have k1:=u.aS
 have E:=nP _ _ _ _ h k1
 have C:=ae (acE l v x.id _ E af D)
 have B:=Im D
 obtain⟨A,c,rfl,-⟩:=h
 obtain⟨a,y⟩:=x
 have B:(fA a).length<=30000:=B
 go_in
 go_upto_region 1 with fail
 generalize w.alloc _=F at *
 generalize w.heap.size=g at u⊢
 have:=u.cells
 have:=K.rf F
 cases y
 ·go_wp2_with fail
  apply bN C.aa;rintro L H⟨hs,k2⟩;have j:=uP 0 (eK hs) af aB;rw[show ((0:Nat):Int)=0 from rfl]at j;replace j:=ae j;obtain⟨N,c2,rfl,-⟩:=eK hs;generalize J:(l++fA a).length=M at *;go_wp2_with fail
  apply bN j.aa;rintro G I⟨t,k3⟩;have hs:=mo (k1.tr k2).size t;rw[show l++fA a++az 0=l++lq ⟨a,false⟩from by simp[lq]]at hs;exact aiC
 ·go_wp2_with fail
  apply bN C.aa;rintro L H⟨hs,k2⟩;have j:=uP 1 (eK hs) af aB;rw[show ((1:Nat):Int)=1 from rfl]at j;replace j:=ae j;obtain⟨N,c2,rfl,-⟩:=eK hs;generalize J:(l++fA a).length=M at *;go_wp2_with fail
  apply bN j.aa;rintro G I⟨t,k3⟩;have hs:=mo (k1.tr k2).size t;rw[show l++fA a++az 1=l++lq ⟨a,true⟩from by simp[lq]]at hs;exact aiC
theorem aon l v x u w(h:sl l v w)(G:dx x u w)(Z:l.length<=800000000)(C:cE x) :
 Calls prog 150 #[v,u] w λe w'=>∃v',e=.returned v'/\Own w' w.heap.size 5 v' (l++gh x)/\K w w':=by
 obtain⟨vf,U,rfl,B,D⟩:=G
 obtain⟨O,L,rfl⟩:=b5 B
 obtain⟨H,E,rfl⟩:=av D
 have j:=K.new w (.cells (aE x (.slice O x.f.length L) (.slice H x.es.length E)) 126)
 have N:=ae (Ud x _ _ ⟨_,_,rfl,eu _ _ _ _ B j,bj D j⟩ C)
 have F:=ae λW (kW:K w W)=>nP _ _ _ _ h kW
 have:=ada C
 obtain⟨A,c,rfl,-⟩:=h
 go_in
 go_wp2_with fail
 generalize w.alloc _=R at *
 refine N.aa.mono ?_
 rintro e J⟨X,rfl,t,y⟩
 have Q:=ae (Py (F.aa J (j.tr y)) (eK t) af af)
 obtain⟨Y,c2,rfl,-⟩:=eK t
 go_wp2_with fail
 refine Q.aa.mono ?_
 rintro e V⟨S,rfl,t,M⟩
 have I:=ae (mo (j.tr y).size t)
 go_wp2
 go_ret
 exact⟨_,rfl,I.aa,j.tr (y.tr M)⟩
theorem apB b l v u w(hb:sl b v w)(h:aq ou l u w)(bS:b.length<=500000000)(akX:l.length<=16)(hfit:∀s∈l,dJ s.id) :
 Calls prog 147 #[v,u,.func (Fn.func 148) #[] #[]] w λe w'=>∃v',e=.returned v'/\Own w' w.heap.size 5 v' (b++fu lq l)/\K w w':=by
 obtain⟨A,c,rfl,S,hc⟩:=h
 have G:=ae hfit
 have L:=ae (uP l.length hb af af)
 obtain⟨Ab,T,rfl,-⟩:=hb
 have hpl:=cS l.length af
 have U:IntKind.u64.wrap (l.length:Int)=l.length:=Xi
 go_in
 go_wp2_with fail
 apply bN L.aa
 rintro X Z⟨M,y⟩
 have xW:=ae M
 go_wp2_with fail
 go_loopw [0,8,16] (fun o _ i wr=>∃j:Nat,j<=l.length/\i=.int .i64 j/\Hid (Own wr w.heap.size 5 o (b++az l.length++(l.take j).flatMap lq))/\K w wr) (fun _ _ i _=>l.length-(intOf i).toNat)
 case atStart=>exact⟨0,af,rfl,ae Xj,y⟩
 case round =>
  obtain⟨j,hj,rfl,J,kr⟩:=hrel;by_cases hlt:j<l.length
  ·have Q:(j:Int)<l.length:=af;obtain⟨E,I,cs,rfl,hcl,R,H,d⟩:=ed S j hlt ax;have HS:Hid (b++az l.length++(l.take (j+1)).flatMap lq=b++az l.length++(l.take j).flatMap lq++lq l[j]):=ae Xk;have B:=G.aa _ (bT hlt);have Y:(b++az l.length++(l.take j).flatMap lq).length<=600000000:=by have:=K7 lq 30000 (l.take j) (λx t=>by have B:=G.aa x (nQ t);exact U1 B);exact Xl
   generalize l[j]=x at *;obtain rfl:=R w (K.rf w);have H:∀W,K wr W->W.cell? ⟨E,I+j*4,none⟩=some (.int .i64 x.id.1):=λW kW=>H W (kr.tr kW)
   have d:∀W,K wr W->∀i,i<4->W.cell? ⟨E,I+j*4+i,none⟩=(gV x)[i]?:=λW kW i O=>(d W (kr.tr kW) i O).trans Array.getElem?_toList
   have y:=K.rf wr;have N:=K.rf wr;have t:=ah.new wr 225 (gV x);have D:=t.aS;go_upto_region 5 with fail;have uA:=kr.tr D;generalize wr.alloc _=C at *;generalize wr.heap.size=V at *;have q:=t.cells;have y:=K.rf C;go_wp2_with fail
   apply bN (aoS _ _ x C (nP _ _ _ _ (eK J.aa) (N.tr D)) af B);exact Xm
  ·have Q:¬(j:Int)<l.length:=af;have F:=J.aa;rw[gI af,dQ]at F;have HS:=ae (show Own wr w.heap.size 5 u0 (b++fu lq l)from F);exact Xn
theorem Ui b l v u w(hb:sl b v w)(h:aq aW l u w)(bS:b.length<=500000000)(akX:l.length<=16)(hfit:∀s∈l,cE s) :
 Calls prog 149 #[v,u,.func (Fn.func 150) #[] #[]] w λe w'=>∃v',e=.returned v'/\Own w' w.heap.size 5 v' (b++fu gh l)/\K w w':=by
 obtain⟨A,c,rfl,Z,hc⟩:=h
 have J:=ae hfit
 have S:=ae (uP l.length hb af af)
 obtain⟨Ab,cb,rfl,-⟩:=hb
 have hpl:=cS l.length af
 have hu:IntKind.u64.wrap (l.length:Int)=l.length:=Xi
 go_in
 go_wp2_with fail
 apply bN S.aa
 rintro v1 w1⟨T,y⟩
 have xW:=ae T
 go_wp2_with fail
 go_loopw [0,8,16] (fun o _ i wr=>∃j:Nat,j<=l.length/\i=.int .i64 j/\Hid (Own wr w.heap.size 5 o (b++az l.length++(l.take j).flatMap gh))/\K w wr) (fun _ _ i _=>l.length-(intOf i).toNat)
 case atStart=>exact⟨0,af,rfl,ae Xj,y⟩
 case round =>
  obtain⟨j,hj,rfl,N,kr⟩:=hrel;by_cases hlt:j<l.length
  ·have X:(j:Int)<l.length:=af;obtain⟨H,M,cs,rfl,hcl,Y,L,d⟩:=ed Z j hlt ax;have HS:Hid (b++az l.length++(l.take (j+1)).flatMap gh=b++az l.length++(l.take j).flatMap gh++gh l[j]):=ae Xk;have B:=J.aa _ (bT hlt);have hbj:(b++az l.length++(l.take j).flatMap gh).length<=600000000:=by have:=K7 gh 30000 (l.take j) (λx t=>by have B:=J.aa x (nQ t);exact Fz B);exact Xl
   generalize l[j]=x at *;obtain⟨vf,ve,rfl,Q,R⟩:=Y w (K.rf w);obtain⟨O,G,rfl⟩:=b5 Q;obtain⟨E,C,rfl⟩:=av R;have L:∀W,K wr W->W.cell? ⟨H,M+j*8,none⟩=some (.int .i64 x.kind):=λW kW=>L W (kr.tr kW)
   have d:∀W,K wr W->∀i,i<8->W.cell? ⟨H,M+j*8+i,none⟩=(aE x (.slice O x.f.length G) (.slice E x.es.length C))[i]?:=λW kW i V=>(d W (kr.tr kW) i V).trans Array.getElem?_toList
   have y:=K.rf wr;have U:=K.rf wr;have t:=ah.new wr 126 (aE x (.slice O x.f.length G) (.slice E x.es.length C));have F:=t.aS;go_upto_region 5 with fail;have uA:=kr.tr F;generalize wr.alloc _=D at *;generalize wr.heap.size=gx at *;have q:=t.cells;have y:=K.rf D;go_wp2_with fail
   apply bN (aon _ _ x _ D (nP _ _ _ _ (eK N.aa) (U.tr F)) ⟨_,_,rfl,eu _ _ _ _ Q uA,bj R uA⟩ af B);exact Xm
  ·have X:¬(j:Int)<l.length:=af;have I:=N.aa;rw[gI af,dQ]at I;have HS:=ae (show Own wr w.heap.size 5 u0 (b++fu gh l)from I);exact Xn
theorem adb b l v u w(hb:sl b v w)(h:aq bZ l u w)(bS:b.length<=500000000)(akX:l.length<=16)(hfit:∀s∈l,dJ s) :
 Calls prog 151 #[v,u,.func (Fn.func 152) #[] #[]] w λe w'=>∃v',e=.returned v'/\Own w' w.heap.size 5 v' (b++fu fA l)/\K w w':=by
 obtain⟨A,c,rfl,S,hc⟩:=h
 have G:=ae hfit
 have L:=ae (uP l.length hb af af)
 obtain⟨Ab,T,rfl,-⟩:=hb
 have hpl:=cS l.length af
 have U:IntKind.u64.wrap (l.length:Int)=l.length:=Xi
 go_in
 go_wp2_with fail
 apply bN L.aa
 rintro X Z⟨M,y⟩
 have xW:=ae M
 go_wp2_with fail
 go_loopw [0,8,16] (fun o _ i wr=>∃j:Nat,j<=l.length/\i=.int .i64 j/\Hid (Own wr w.heap.size 5 o (b++az l.length++(l.take j).flatMap fA))/\K w wr) (fun _ _ i _=>l.length-(intOf i).toNat)
 case atStart=>exact⟨0,af,rfl,ae Xj,y⟩
 case round =>
  obtain⟨j,hj,rfl,J,kr⟩:=hrel;by_cases hlt:j<l.length
  ·have Q:(j:Int)<l.length:=af;obtain⟨E,I,cs,rfl,hcl,R,H,d⟩:=ed S j hlt ax;have HS:Hid (b++az l.length++(l.take (j+1)).flatMap fA=b++az l.length++(l.take j).flatMap fA++fA l[j]):=ae Xk;have B:=G.aa _ (bT hlt);have Y:(b++az l.length++(l.take j).flatMap fA).length<=600000000:=by have:=K7 fA 30000 (l.take j) (λx t=>by have B:=G.aa x (nQ t);exact Im B);exact Xl
   generalize l[j]=x at *;obtain rfl:=R w (K.rf w);have H:∀W,K wr W->W.cell? ⟨E,I+j*3,none⟩=some (.int .i64 x.1):=λW kW=>H W (kr.tr kW)
   have d:∀W,K wr W->∀i,i<3->W.cell? ⟨E,I+j*3+i,none⟩=(dh x)[i]?:=λW kW i O=>(d W (kr.tr kW) i O).trans Array.getElem?_toList
   have y:=K.rf wr;have N:=K.rf wr;have t:=ah.new wr 26 (dh x);have D:=t.aS;go_upto_region 5 with fail;have uA:=kr.tr D;generalize wr.alloc _=C at *;generalize wr.heap.size=V at *;have q:=t.cells;have y:=K.rf C;go_wp2_with fail
   apply bN (acE _ _ x C (nP _ _ _ _ (eK J.aa) (N.tr D)) af B);exact Xm
  ·have Q:¬(j:Int)<l.length:=af;have F:=J.aa;rw[gI af,dQ]at F;have HS:=ae (show Own wr w.heap.size 5 u0 (b++fu fA l)from F);exact Xn
theorem aoo m v w(h:lI m v w)(hf:nX m) :
 Calls prog 89 #[v] w λe w'=>∃v',e=.returned (.tuple #[v',.int .i64 (iJ m)])/\Own w' w.heap.size 5 v' (Me m)/\K w w':=by
 have C0:=ae λW (kW:K w W)=>abV m v W (XQ h kW)
 obtain⟨v1,v2,v3,v4,v5,v6,rfl,h1,h2,h3,h4,h5,h6⟩:=h
 have L1:=ae λW (kW:K w W)=>bj h1 kW
 have L2:=ae λW (kW:K w W)=>bj h2 kW
 have L3:=ae λW (kW:K w W)=>bj h3 kW
 have L4:=ae λW (kW:K w W)=>bj h4 kW
 have L5:=ae λW (kW:K w W)=>bj h5 kW
 have L6:=ae λW (kW:K w W)=>bj h6 kW
 obtain⟨A1,c1,rfl⟩:=av h1
 obtain⟨A2,c2,rfl⟩:=av h2
 obtain⟨A3,c3,rfl⟩:=av h3
 obtain⟨A4,c4,rfl⟩:=av h4
 obtain⟨A5,c5,rfl⟩:=av h5
 obtain⟨A6,c6,rfl⟩:=av h6
 have j:=ah.new w 156 (kj m (.slice A1 m.cG.length c1) (.slice A2 m.asks.length c2) (.slice A3 m.entries.length c3) (.slice A4 m.eD.length c4) (.slice A5 m.dF.length c5) (.slice A6 m.ends.length c6))
 have k1:=j.aS
 have t:=ae hf
 have Oj:Hid (iJ m=if dI m then 0 else 130):=ae rfl
 have HRM:Hid (Me m=if dI m then gD m else []):=ae rfl
 generalize iJ m=CK at *
 generalize Me m=G at *
 go_in
 go_upto_region 1 with fail
 generalize w.alloc _=w1 at *
 have qx:=j.cells
 have y:=K.rf w1
 generalize w.heap.size=g at *
 go_wp2_with fail
 apply cF (C0.aa w1 k1) k1
 intro w2 k2 lK
 cases hok:dI m
 ·obtain rfl:CK=130:=by rw[Oj.aa,hok];rfl
  obtain rfl:G=[]:=by rw[HRM.aa,hok];rfl
  go_wp2;go_ret2;exact⟨_,rfl,jV _ _ _ _,lK⟩
 obtain rfl:CK=0:=by rw[Oj.aa,hok];rfl
 have HR:Hid (G=gD m):=ae (by rw[HRM.aa,hok];rfl)
 have u:=ae (KZ hok)
 have Y:=λW (kW:K w2 W)=>qx W (k2.tr kW)
 have y:=K.rf w2
 have:=cS (aZ m.kind) (gH _)
 have:=cS m.got t.aa.2.1
 go_upto_region 4 with fail
 have qs:=And.intro Y DQ
 refine dK 7 ?_
 iterate 3 refine ar.i ?_
 refine ar.c (sl (az (aZ m.kind))) (nP _) (λW _=>(uP (aZ m.kind) (XP _) (gH _) aj).mono λe w9 ⟨Q,E,L,T⟩=>⟨Q,E,eK (aN (az _)▸L),T⟩) ?_
 iterate 2 refine ar.i ?_
 refine ar.op (sl (az (aZ m.kind)++az m.got)) (nP _) (λV W kW hp=>?_) ?_
 ·simp only[cz,aN,aQ,bV,bW,aJ]at hp;simp[bO,aF,List.lookup,hp,cU,execOp,aG,go_sem];exact (uP m.got hp.1 t.aa.2.1 af).mono λe w9 ⟨Q,E,L,T⟩=>⟨Q,E,eK L,T⟩
 intro V W kW hA
 simp only[aN,aQ,b6,aJ,Nat.reduceAdd]at hA
 refine aH.p (aH.h ?_)
 have h7:=hA.2.2.2.2.2.2.1
 generalize V 6=v7 at *
 have H:=h7
 have J:=lK.tr kW
 have kv0:=kW
 generalize W=A at *
 have:(az (aZ m.kind)++az m.got).length<=18:=aB
 by_cases gL:m.kind=1
 ·have y:=K.rf A;have Z:=ae (apB _ m.cG _ _ A H (L1.aa _ J) af u.aa.2.1.1 t.aa.2.2.1);have kQ:=xa lq m.cG (λx j=>U1 (t.aa.2.2.1 x j)) u.aa.2.1.1;have b1:(az (aZ m.kind)++az m.got++fu lq m.cG).length<=480027:=aB;obtain⟨B0,e0,rfl,-⟩:=H;generalize (az (aZ m.kind)++az m.got).length=n0 at *;have y:=K.rf A;go_wp2_with fail
  apply rr Z.aa J;intro v19 W1 D R B;have N:=kv0.tr R;have M:=ae (Ui _ m.asks _ _ W1 (eK D) (L2.aa _ B) af u.aa.2.2.1.1 t.aa.2.2.2.1);have fg:=xa gh m.asks (λx j=>Fz (t.aa.2.2.2.1 x j)) u.aa.2.2.1.1;have b2:(az (aZ m.kind)++az m.got++fu lq m.cG++fu gh m.asks).length<=960036:=aB;obtain⟨B1,E,rfl,-⟩:=eK D;generalize (az (aZ m.kind)++az m.got++fu lq m.cG).length=n1 at *;have y:=K.rf W1;go_wp2_with fail
  apply rr M.aa B;intro v29 C I S F;have X:=N.tr S;have O:=ae (show Own C w.heap.size 5 v29 G from by rw[HR.aa];have h:=mo B.size I;simp only[gD,dQ,ite_true,gL]at h⊢;exact h);go_wp2;go_ret2;exact⟨_,rfl,O.aa,F⟩
 ·have y:=K.rf A;have Z:=ae (Ui _ m.entries _ _ A H (L3.aa _ J) af u.aa.2.2.2.1.1 t.aa.2.2.2.2.1);have kQ:=xa gh m.entries (λx j=>Fz (t.aa.2.2.2.2.1 x j)) u.aa.2.2.2.1.1;have b1:(az (aZ m.kind)++az m.got++fu gh m.entries).length<=480027:=aB;obtain⟨B0,e0,rfl,-⟩:=H;generalize (az (aZ m.kind)++az m.got).length=n0 at *;have y:=K.rf A;go_wp2_with fail
  apply rr Z.aa J;intro v19 W1 D R B;have N:=kv0.tr R;have M:=ae (Ui _ m.eD _ _ W1 (eK D) (L4.aa _ B) af u.aa.2.2.2.2.1.1 t.aa.2.2.2.2.2.1);have fg:=xa gh m.eD (λx j=>Fz (t.aa.2.2.2.2.2.1 x j)) u.aa.2.2.2.2.1.1;have b2:(az (aZ m.kind)++az m.got++fu gh m.entries++fu gh m.eD).length<=960036:=aB;obtain⟨B1,E,rfl,-⟩:=eK D;generalize (az (aZ m.kind)++az m.got++fu gh m.entries).length=n1 at *;have y:=K.rf W1;go_wp2_with fail
  apply rr M.aa B;intro v29 C I S F;have X:=N.tr S;have C3:=ae (adb _ m.dF _ _ C (eK I) (L5.aa _ F) af u.aa.2.2.2.2.2.1.1 t.aa.2.2.2.2.2.2.1);have:=xa fA m.dF (λx j=>Im (t.aa.2.2.2.2.2.2.1 x j)) u.aa.2.2.2.2.2.1.1;have:(az (aZ m.kind)++az m.got++fu gh m.entries++fu gh m.eD++fu fA m.dF).length<=1440045:=aB;obtain⟨B2,e2,rfl,-⟩:=eK I;generalize (az (aZ m.kind)++az m.got++fu gh m.entries++fu gh m.eD).length=n2 at *;have Y:=λW (kW:K C W)=>Y W (X.tr kW)
  have y:=K.rf C;go_wp2_with fail
  apply rr C3.aa F;intro v39 W3 fR j3 U;have:=X.tr j3;have C4:=ae (adb _ m.ends _ _ W3 (eK fR) (L6.aa _ U) af u.aa.2.2.2.2.2.2.1 t.aa.2.2.2.2.2.2.2);have:=xa fA m.ends (λx j=>Im (t.aa.2.2.2.2.2.2.2 x j)) u.aa.2.2.2.2.2.2.1;obtain⟨B3,e3,rfl,-⟩:=eK fR;generalize (az (aZ m.kind)++az m.got++fu gh m.entries++fu gh m.eD++fu fA m.dF).length=n3 at *;have y:=K.rf W3;go_wp2_with fail
  apply rr C4.aa U;intro v49 W4 hs4 j4 kw4;have O:=ae (show Own W4 w.heap.size 5 v49 G from by rw[HR.aa];have h:=mo U.size hs4;simp only[gD,dQ,ite_false,gL]at h⊢;exact h);go_wp2;go_ret2;exact⟨_,rfl,O.aa,kw4⟩
def Bc:dV (Int×List UInt8) where
 size:=2
 rel x cs w:=∃v,cs=[.int .i64 x.1,v]/\sl x.2 v w
 len:=by rintro _ _ _⟨v,rfl,_⟩;rfl
 one:=by rintro x _ _⟨v,rfl,A,c,rfl,_⟩ u j;simp at j;rcases j with rfl|rfl <;> rfl
 st:=by rintro _ _ _ _⟨v,rfl,h⟩ k;exact⟨v,rfl,nP _ _ _ _ h k⟩
theorem axt:(prog.info? 96).map (λi=>(i.zero,i.size,i.bytes))=some (some (.agg #[.int .i64 0,.slice none 0 0]),2,32):=by rfl
theorem aAC:fS prog 92 96 (.agg #[.int .i64 0,.slice none 0 0]) 2 32:=⟨underlying92,axt,rfl,ax⟩
theorem acF{base gb outs o w} j m T(hb:ah w gb 92 #[o])(D:aC (λk=>k<base) base 96 Bc outs o w)(hm:lI m T w)(hfit:nX m)(V:gb<base)(hz:base<=w.heap.size)(hn:outs.length<=1000) :
 Calls prog 88 #[.int .i64 j,T,.pointer (some ⟨gb,0,none⟩)] w λe w'=>e=.returned (.tuple #[])/\∃o',ah w' gb 92 #[o']/\aC (λk=>k<base) base 96 Bc (outs++tZ j m) o' w'/\ag (λk=>k=gb∨o.ownBlock=some k) w w'/\∀k,o'.ownBlock=some k->o.ownBlock=some k∨w.heap.size<=k:=by
 have HR:Hid (tZ j m=if dI m then [(j,gD m)]else []):=ae rfl
 have Y:Hid (iJ m=if dI m then 0 else 130):=ae rfl
 have HM:Hid (Me m=if dI m then gD m else []):=ae rfl
 have C1:=ae λW (k:K w W)=>aoo m T W (XQ hm k) hfit
 obtain⟨v1,v2,v3,v4,v5,v6,rfl,h1,h2,h3,h4,h5,h6⟩:=hm
 obtain⟨A1,c1,rfl⟩:=av h1
 obtain⟨A2,c2,rfl⟩:=av h2
 obtain⟨A3,c3,rfl⟩:=av h3
 obtain⟨A4,c4,rfl⟩:=av h4
 obtain⟨A5,c5,rfl⟩:=av h5
 obtain⟨A6,c6,rfl⟩:=av h6
 have t:=ah.new w 156 (kj m (.slice A1 m.cG.length c1) (.slice A2 m.asks.length c2) (.slice A3 m.entries.length c3) (.slice A4 m.eD.length c4) (.slice A5 m.dF.length c5) (.slice A6 m.ends.length c6))
 have O:=t.aS
 obtain⟨A,y,rfl⟩:=D.slice
 generalize tZ j m=Z at *
 generalize iJ m=CK at *
 generalize Me m=EM at *
 go_in
 go_upto_region 1 with fail
 generalize w.alloc _=w1 at *
 have:=t.cell
 have C2:=ae (C1.aa w1 O)
 go_wp2_with fail
 refine C2.aa.mono ?_
 rintro e F⟨v7,rfl,C,k2⟩
 have B:=O.tr k2
 have U:=D.st B
 have Q:=hb.ay B
 have:=O.size
 have:=B.size
 have bS:=D.blk
 cases hk:dI m
 ·obtain rfl:CK=130:=by rw[Y.aa,hk];rfl
  have I:Hid (Z=[]):=ae (by rw[HR.aa,hk];rfl);go_wp2;go_end0;exact⟨rfl,_,Q,by rw[I.aa,List.append_nil];exact U,ag.aU B _,λ_ h=>.inl h⟩
 obtain rfl:CK=0:=by rw[Y.aa,hk];rfl
 obtain rfl:EM=gD m:=by rw[HM.aa,hk];rfl
 have I:Hid (Z=[(j,gD m)]):=ae (by rw[HR.aa,hk];rfl)
 have:=Q.cell
 have mm:Fx (λk=>k<base∨(Value.slice A outs.length y).ownBlock=some k) (λW=>Bc.rel (j,gD m) (Value.agg #[.int .i64 j,v7]).cells.toList W) F:=λW u=>⟨v7,rfl,eK (iN C u λk hk t=>by
  have:=(C.lt k hk).1;rcases t with t|t
  ·omega
  ·have:=(bS k t).2;omega)⟩
 obtain⟨L,G,rfl,-⟩:=eK C
 have hr:=ez.new (S:=Bc) (e:=96) (v:=.agg #[.int .i64 j,.slice L (gD m).length G]) mm 0 (eE _)
 have M:=K.new F (.cells #[.int .i64 j,.slice L (gD m).length G] 96)
 have bQ:=U.st M
 have bP:=Q.ay M
 have ox:=B.tr M
 have iQ:=ox.size
 go_wp2_with (at_builtin;refine jz rfl _ _ 92 rfl _ 2 32 aAC rfl rfl bQ _ rfl (j,gD m) ?p1 ?p2 ?p3 ?_)
 case p1=>exact hr
 case p2=>omega
 case p3=>exact bo hz iQ
 intro v9 w9 E cd eS bq
 have u9:ag (λk=>k=gb∨(Value.slice A outs.length y).ownBlock=some k) (F.alloc (.cells #[.int .i64 j,.slice L (gD m).length G] 96)) w9:=ag.eP cd λk hk=>.inr hk
 have hat:∀k,v9.ownBlock=some k->(Value.slice A outs.length y).ownBlock=some k∨w.heap.size<=k:=λk hk=>by
  rcases eS with e|e
  ·exact .inl (e▸hk)
  ·rw[e]at hk;injection hk with hk;exact .inr af
 have qN:=ae hat
 have:=λk hk=>(E.blk k hk).1
 have J:=bP.aX (ag.eP (X:=λk=>(Value.slice A outs.length y).ownBlock=some k) cd λk hk=>hk) λhk=>by have:=(bS gb hk).1;omega
 obtain⟨R,N,rfl⟩:=E.slice
 generalize (outs++[(j,gD m)]).length=H at *
 have:=J.cell
 have:=J.frozen
 have hbF:=J.aP 0 (.slice R H N)
 have uF:=((ag.aU ox (λk=>k=gb∨(Value.slice A outs.length y).ownBlock=some k)).tr u9).tr (ag.bK (X:=λk=>k=gb∨(Value.slice A outs.length y).ownBlock=some k) (.inl rfl) 0 (.slice R H N))
 have hOF:=ae (E.up (Y':=λk=>k=gb) (ag.bK (X:=λk=>k=gb) rfl 0 (.slice R H N)) (λk e=>by subst e;exact V) λk e=>by subst e;exact V)
 have UF:=ae uF
 have BF:=ae hbF
 go_wp2
 go_end0
 exact⟨rfl,_,BF.aa,by rw[I.aa];exact hOF.aa,UF.aa,qN.aa⟩
theorem adX k m:(tZ k m).length<=1:=by grind [tZ]
theorem U2 B:∀l:List Int,(sU B l).length<=l.length
 | []=>by simp[sU]
 | k :: l=>by have:=adX k (tK B k);have:=U2 B l;simp only[sU,vC,dq,eQ]at *;omega
theorem adY B:(sS B).length<=1:=by grind [sS,adX]
theorem axu{B}{m:Nat}(j:B.me=(m:Int))(t:m<B.par.length):vQ B=B.par[m]:=by
 grind [vQ]
theorem aqI{M p B w}(h:bA M p B w)(T:bC B)(hF:kO B)(im:B.told.length<=800000) :
 Calls prog 46 #[.pointer (some ⟨p.g,0,none⟩)] w λe w'=>∃v' p',e=.returned v'/\bA (λk=>M k∨bu p' k) p' (gA B) w'/\ag (bu p) w w'/\p'.key=p.key/\(∀k,bu p' k->bu p k∨w.heap.size<=k)/\Fx (λk=>M k∨bu p' k) (λW=>aq Bc (ua (gA B)) v' W) w':=by
 have C1:=ae (acy h T)
 have hS:=KS T
 have C:=KR T
 have Ol:=Pt T hF
 have hlo:=h.low
 have akY:=λk hk=>h.low k (h.sub k hk)
 have htW:(gA B).told.length<=800000:=by rw[hS.told];exact im
 generalize gA B=t at *
 obtain⟨g,hg⟩:∃g,g=p.g:=⟨_,rfl⟩
 rw[<- hg]at C1⊢
 have HG:=ae hg
 clear h T hF im hS hg
 go_in
 go_wp2_with fail
 refine C1.aa.mono ?_
 rintro e G⟨rfl,hN⟩
 obtain⟨p',qP,J,jy,wQ⟩:=hN
 have eX:=ah.new G 92 #[.slice none 0 0]
 have kA:=eX.aS
 have Et:(G.alloc (.cells #[.slice none 0 0] 92)).heap.size=G.heap.size+1:=aj
 have BC:bA (λk=>(M k∨bu p' k)∨k=G.heap.size) p' t (G.alloc (.cells #[.slice none 0 0] 92)) :=
  qP.far (X:=λ_=>False) (ag.aU kA _) (λ_ h=>h.elim) (λ_ h=>h.elim) (λk hk E=>E.resolve_right af) (λk hk=>.inl (.inr hk)) λk hk=>by
   rcases hk with hk|hk
   ·have:=qP.low k hk;omega
   ·omega
 have S0:=ae kA
 have F:=qP.low
 have u1s:=J.size
 clear C1 qP
 go_upto_region 5 with fail
 generalize G.alloc _=L at *
 generalize RK:G.heap.size=gb at *
 have kV:=(BH jy).trans HG.aa.symm
 obtain⟨base,hbase⟩:∃base,base=L.heap.size:=⟨_,rfl⟩
 have hgb:gb<base:=af
 have Tt:Hid (∀W,ag (λk=>k=gb∨base<=k) L W->bA (λk=>(M k∨bu p' k)∨k=gb) p' t W):=ae λW u =>
  have u':ag (λk=>k=gb) L W:=⟨u.os,u.tape,u.output,u.size,λk h1 h2=>u.block k h1 λh=>h.elim h2 λh=>af⟩
  BC.far u' (λk hk=>.inr hk) (λk hk E=>by have:=F k (.inr E);omega) (λ_ _ h=>h) (λk hk=>.inl (.inr hk)) λk hk=>bw (BC.low k hk) u.size
 have HB:=ae hbase
 have HV2:=ae BC
 have HX:=ae (And.intro J (And.intro jy (And.intro wQ (And.intro F RK))))
 clear BC J jy wQ F RK
 go_wp2_with fail
 have CR:=ae (O2 HV2.aa)
 rw[kV]at CR
 refine CR.aa.mono ?_
 rintro e H⟨rfl,k3⟩
 have u3:ag (λk=>k=gb∨base<=k) L H:=ag.aU k3 _
 have Je:=eX.ay k3
 have BN:=ae u3
 have lJ:=aC.nil (λk=>k<base) base 96 Bc H
 have iQ:=k3.size
 clear CR eX
 go_upto_if 14 with fail
 go_cut [13,14]from 15 to 48 (fun _ _ W=>∃o,ah W gb 92 #[o]/\aC (fun k=>k<base) base 96 Bc (sS t) o W/\ag (fun k=>k=gb∨base<=k) L W)
 case first =>
  have HR:Hid (sS t=if nh t then []else tZ (vQ t) (Ad t)):=ae rfl;generalize sS t=OU at *;cases hr:nh t
  ·have HO:Hid (OU=tZ (vQ t) (Ad t)):=ae (by rw[HR.aa,hr];rfl);clear hr HR;have D:=Tt.aa H u3;have q:=D.q;have jd:=C.dk.len;have hrl:=C.fB;have EN:=C.me;have hpl:=(rU C.tr).2;have qG:(dA t).length<=16:=by unfold dA;rw[List.length_map];exact bo (Il _ _) (rU C.tr).2
   simp only[fY,dz,decide_eq_true_eq]at EN;obtain⟨mn,wh⟩:=Int.eq_ofNat_of_zero_le EN.1;have Om:mn<t.par.length:=af;have Tu:=ae (axu wh Om);have CL:=ae λW (k:K H W)=>Ux (D.st k) C
   have CA:=ae λW (k:K H W)=>acx (D.st k) C
   have HD:=ae λW (k:K H W)=>D.bF.at k
   have MI:=D.bF.now.par;have hs1:=av D.bF.now.list;have fH:=av D.bF.now.prom;have fR:=av D.bF.now.fB;have HV3:=ae D;rw[kV]at q CL CA;obtain⟨g',gl,gd,gr,gt,vd,vr,vp,vh,vl,vq,va,vt,vf,vw,kr⟩:=p';simp only at q HD MI hs1 fH fR;simp only[G0,wh]at q;obtain⟨Al,cl,rfl⟩:=hs1;obtain⟨Aq,cq,rfl⟩:=fH;obtain⟨Af,cf,rfl⟩:=fR;obtain⟨Ap,cp,rfl,RL,-⟩:=MI;obtain⟨bp,op,rfl,S⟩:=ints_at RL af;have Q:=λW (k:K H W)=>S W k mn Om
   have uJ:(mn:Int)<t.par.length:=af;have hw:=ajP t.st.list.length af;have HMN:=ae wh;clear D S RL EN wh u3;go_wp2_with fail
   have qs:=And.intro q (And.intro Q (And.intro uJ hw));refine dK 33 ?_;iterate 28 refine ar.i ?_
   refine ar.op (λv W=>aq yh (dA t) v W) (λ_ _ _ h k=>bj h k) (λV W kW hp=>?_) ?_
   ·(try simp only[cz,aN,aQ,bV,bW,aJ]at hp)
    simp[bO,aF,List.lookup,hp,cU,execOp,aG,q,Q,uJ,hw,go_sem];refine (CL.aa W kW).mono ?_;exact aiD
   refine ar.op (λv W=>aq ou (IX t.st.prom t.refused (dA t)) v W) (λ_ _ _ h k=>bj h k) (λV W kW hp=>?_) ?_
   ·(try simp only[cz,aN,aQ,bV,bW,aJ]at hp)
    simp[bO,aF,List.lookup,hp,cU,execOp,aG,q,Q,uJ,hw,go_sem];refine (aqs t.st.prom t.refused (dA t) _ _ _ W (HD.aa W kW).prom (HD.aa W kW).fB hp.2.2.1 af af af (λm hm=>by have:=(C.last hm).2.1;omega)).mono ?_;rintro e w4⟨v4,rfl,hO,k4⟩;exact⟨_,rfl,hO.aq,k4⟩
   refine ar.i ?_;refine ar.op (λv W=>aq aW (lu t) v W) (λ_ _ _ h k=>bj h k) (λV W kW hp=>?_) ?_
   ·(try simp only[cz,aN,aQ,bV,bW,aJ]at hp)
    simp[bO,aF,List.lookup,hp,cU,execOp,aG,q,Q,uJ,hw,go_sem];refine (CA.aa W kW).mono ?_;exact aiD
   refine ar.op (λv W=>lI (Ad t) v W) (λ_ _ _ h k=>XQ h k) (λV W kW hp=>?_) ?_
   ·simp only[cz,aN,aQ,bV,bW,aJ]at hp;obtain⟨J4,h29,h31,-⟩:=hp;obtain⟨A29,c29,e29⟩:=av h29;obtain⟨A31,c31,e31⟩:=av h31;simp[bO,aF,List.lookup,J4,e29,e31,cU,execOp,aG,cP,go_sem];rw[e29]at h29;rw[e31]at h31;exact⟨_,_,_,_,_,_,rfl,h29,h31,gy _ _,gy _ _,gy _ _,gy _ _⟩
   clear qs;intro V W kW hA;simp only[aN,aQ,b6,aJ,Nat.reduceAdd]at hA;obtain⟨f0,f1,f2,f3,f4,f5,f6,f7,f8,f9,f10,f11,f12,f13,f14,f15,f16,f17,f18,f19,f20,f21,f22,f23,f24,f25,f26,f27,f28,f29,f30,f31,f32,-⟩:=hA;have bq:=Je.ay kW;have oA:=kW.size;have CS:=ae (acF (vQ t) (Ad t) _ bq (lJ.st kW) f32 (acC C Ol) hgb af aj);rw[Tu.aa]at CS;clear f1 f2 f3 f4 f5 f6 f7 f8 f9 f11 f12 f13 f14 f15 f16 f17 f18 f19 f20 f21 f22 f23 f24 f25 f26 f27 f28 f29 f30 f31 f32 CL CA q Q;refine aH.call _ _ rfl (by simp[aF,List.lookup,ba,f0,f10,execOp,aG,go_sem];exact⟨rfl,rfl⟩) ?_;refine CS.aa.mono ?_;rintro e O⟨rfl,o',Y,I,u5,-⟩;refine⟨_,rfl,?_⟩;refine aH.nil ?_;simp only[fT,Act.put,rW,rh,qZ,Nat.reduceAdd,ba];have U5:=ae ((BN.aa.tr (ag.aU kW (λk=>k=gb∨base<=k))).tr (u5.more λk hk=>hk.imp id λh=>yz));rw[aN,<- Tu.aa,<- HO.aa]at I;clear CS f0 f10 u5;go_wp2_with fail
   go_meet
   case rel=>exact⟨_,Y,I,U5.aa⟩
  ·have HO:Hid (OU=[]):=ae (by rw[HR.aa,hr];rfl);clear hr HR;go_wp2_with fail
   go_meet
   case rel=>exact⟨_,Je,by rw[HO.aa];exact lJ,BN.aa⟩
 case rest =>
  obtain⟨o,hbo,hO,u4⟩:=hcut;have Kf:=Tt.aa wc u4;have CK:=ae (Ut Kf C);rw[kV]at CK;have qG:(pD t).length<=16:=bo (Il _ _) (rU C.tr).2;have h0l:=adY t;have HX0:Hid (ua t=sS t++sU t (pD t)):=ae rfl;have hwz:=u4.size;clear Kf Je lJ k3 u3 BN iQ;go_wp2_with fail
  refine CK.aa.mono ?_;rintro e O⟨v5,rfl,I,Z⟩;generalize pD t=y at *;obtain⟨A5,c5,rfl⟩:=I.slice;have tB:=ae (I.fx λ_ h=>h);have bS:=hO.blk;have gF:=hbo.lt;have Y:=hbo.ay Z;have Jc:aC (λk=>k<base) base 96 Bc (sS t++sU t (y.take 0)) o O:=by have:=hO.st Z;simpa [sU]using this
  have u5:=ae (u4.tr (ag.aU Z _));have uz:=Z.size;have hU5:=ag.rf (λk=>k=gb∨o.ownBlock=some k) O;clear CK I hbo hO u4;go_wp2_with fail
  go_loopw [6,52] (fun _ i W=>∃(j:Nat) (o2:Value),j<=y.length/\i=.int .i64 j/\ah W gb 92 #[o2]/\aC (fun k=>k<base) base 96 Bc (sS t++sU t (y.take j)) o2 W/\ag (fun k=>k=gb∨o.ownBlock=some k) O W/\∀k,o2.ownBlock=some k->o.ownBlock=some k∨O.heap.size<=k) (fun _ i _=>y.length-(intOf i).toNat)
  case atStart=>exact⟨0,o,af,rfl,Y,Jc,hU5,λ_ h=>.inl h⟩
  case round =>
   clear Y Jc hU5;obtain⟨j,o2,hj,rfl,hb,hO,u,lD⟩:=hrel;have U:=u5.aa.tr (u.more λk hk=>hk.imp id λh=>(bS k h).1);have aFN:=U.size;have hus:=u.size;by_cases hlt:j<y.length
   ·have aO:(j:Int)<y.length:=af;have hl:=(tB.aa.up u λk hk=>by rcases hk with hk|hk;omega;exact (bS k hk).2).now;obtain⟨A,c,e,hl,-⟩:=hl;injection e with e1 e2 e3;subst e1;clear e2 e3;obtain⟨b,off,rfl,S⟩:=ints_at hl af;have cj:=S wr (K.rf _) j hlt;have hV:=Tt.aa wr U;have R:=aom hV C Ol.nd htW y[j];have hcf:=ab4 C y[j];have HS:Hid (sS t++sU t (y.take (j+1))=(sS t++sU t (y.take j))++tZ y[j] (tK t y[j])):=ae (by
     unfold sU;rw[gg hlt,List.flatMap_append,<- dQ];simp only[vC,List.flatMap_nil,List.append_nil])
    have EJ:=U2 t (y.take j);have yg:(sS t++sU t (y.take j)).length<=1000:=by rw[dq];rw[p8]at EJ;omega
    rw[kV]at R;have R:=ae R;generalize y[j]=kd at *;generalize sS t++sU t (y.take j)=os at *;generalize tK t kd=cm at *;clear S hl hV EJ;go_wp2_with fail
    refine R.aa.mono ?_;rintro e w6⟨v6,rfl,CZ,k6⟩;have jG:=hb.ay k6;have xE:=k6.size;have C7:=ae (acF kd cm v6 jG (hO.st k6) CZ hcf hgb af yg);obtain⟨m1,m2,m3,m4,m5,m6,rfl,-⟩:=CZ;clear R cj hb hO;go_wp2_with fail
    refine C7.aa.mono ?_;rintro e w7⟨rfl,o7,jm,km,u7,RV⟩;rw[<- HS.aa]at km;have hU7:=ae ((u.tr (ag.aU k6 _)).gq u7 λk hk E=>E.imp id λh=>(lD k h).resolve_right af);have hN7:=ae λk hk=>(RV k hk).elim (λh=>lD k h) λh=>.inr af
    clear C7 RV u7 lD;go_wp2;go_roundw
    case rel=>exact⟨j+1,o7,af,bD,jm,km,hU7.aa,hN7.aa⟩
    case measure=>simp[intOf];omega
   ·have aO:¬(j:Int)<y.length:=af;obtain rfl:j=y.length:=af;rw[nc,<- HX0.aa]at hO;obtain⟨Ao,co,rfl⟩:=hO.slice;have q:=hb.cell;obtain⟨J,hkey,jM,F,RK⟩:=HX.aa;have HF:=ae (show bA (λk=>M k∨bu p' k) p' t wr from (Tt.aa wr U).less (λk hk=>.inr hk) λk hk=>.inl hk);have hUF:=((J.tr (ag.aU S0.aa _)).gq U λk hk E=>by
     have:=F;rcases E with E|E <;> omega)
    have HU:=ae hUF;have zG:=ae ((hO.fx λ_ h=>h).less (N:=λk=>M k∨bu p' k) λk hk=>by have:=F k hk;omega);have HK:=ae hkey;have E0:=ae jM;clear hO J hkey jM F RK U hUF;go_wp2;go_ret;first|exact⟨_,rfl,p',HF.aa,HU.aa,HK.aa,E0.aa,zG.aa⟩|exact⟨_,p',rfl,HF.aa,HU.aa,HK.aa,E0.aa,zG.aa⟩
