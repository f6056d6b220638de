/-
  The walk of norm.Implies (layer 7). Conditions: none.
-/
import Derived.Test.YtfndfpdhlbmboaaGreatMd22
import Derived.Test.YtfndfpdhlbmboaaGreatMdz
set_option maxRecDepth 100000
set_option linter.constructorNameAsVariable false
set_option maxHeartbeats 16000000
set_option linter.unusedVariables false
set_option linter.unusedSimpArgs false
namespace Go.Proofs.YtfndfpdhlbmboaaGreat
open Go Go.RowKit _root_.Go.Proofs.Tryz
theorem aq9 x y w d:(Op.equalIn (d+1+1+1) 73 (rO x) (rO y)).run prog w=.ok (decide (x=y)) w:=by
 obtain⟨a,b,c,d1,e⟩:=x
 obtain⟨u,A,j,B,t⟩:=y
 simp[go_sem,KO]
 grind
theorem ap9 x y w:(binOp .eql 73 (rO x) (rO y)).run prog w=.ok (.bool (decide (x=y))) w:=by have h:(Op.equal 73 (rO x) (rO y)).run prog w=.ok (decide (x=y)) w:=aq9 x y w 9997;exact ahF
theorem adj{ops rest o a w Q}(C:o.guard=none) x y(B:o.op=.binOp .eql 73 x y 73) p q(A:a.eval x=rO p)(t:a.eval y=rO q)
 (h:wpList prog ops Q rest (a.put o.dst (.bool (decide (p=q)))) w):wpList prog ops Q (o :: rest) a w:=by
 refine wpList_plain C λK j=>?_
 have u:=ap9 p q w
 have hg:(eqGuard BinOp.eql 73 x y (rO p) (rO q)).run prog w=.ok () w:=by simp[eqGuard,go_sem]
 unfold Oper.wp execOp
 simp only[B,Sem.run_bind,Result.andThen_ok,A,t,hg,u,Sem.run_pure]
 exact j _ _ h
theorem apt a b w:Calls prog 339 #[rO a,rO b] w λe w'=>e=.returned (.bool (qT a b))/\K w w':=by
 have F:Hid (qT a b=if a.1≠b.1∨Dr a.2.1=false∨Dr b.2.1=false then false else if a=b∨b.2.1=8 then true else if a.2.1=8∨a.2.2.1≠b.2.2.1 then false else EB a b):=ae rfl;have C1:=ae λW=>asE a b W
 have C2:=ae λW=>acB a.2.2 b.2.2 W
 generalize qT a b=R at *;have y:=K.lW w (.cells (fR a).toArray 73) (.cells (fR b).toArray 73);have hb:=(ai.new w 73 (fR a).toArray).alloc (.cells (fR b).toArray 73);have S:=ai.new (w.alloc (.cells (fR a).toArray 73)) 73 (fR b).toArray;have hz:(w.alloc (.cells (fR a).toArray 73)).heap.size=w.heap.size+1:=aj;rw[hz]at S;clear hz;go_enter func339,ntmps339;go_upto_region 1 with (fail);generalize World.alloc (World.alloc w _) _=L at *;have t:=hb.cells;have j:=S.cells;generalize w.heap.size=N at *;clear hb S;by_cases B:a.1=b.1;rotate_left
 ·have HF:Hid (R=false):=ae (by rw[F.aa,if_pos (.inl B)]);have hs:(a.1.toList==b.1.toList)=false:=by rw[PQ];simpa using B
  have Fg:=t L (K.rf _);have ye:=j L (K.rf _);clear t j B;go_wp2;go_ret;exact⟨D3,y⟩
 have hs:(a.1.toList==b.1.toList)=true:=aA;have Fg:=t L (K.rf _);have ye:=j L (K.rf _);have CK1:=ae (acL a.2.1 L);go_wp2_with fail
 apply aM CK1.aa;intro O J;clear CK1 Fg ye;have sX:=t O J;have Hr:=j O J;cases gE:Dr a.2.1
 ·have HF:Hid (R=false):=ae (by rw[F.aa,if_pos (.inr (.inl gE))]);have kF:=y.tr J;clear t j B F;go_wp2;exact Cd
 have X:=ae (acL b.2.1 O);go_wp2_with fail
 apply cG X.aa J;intro A k3 u;clear X sX Hr J k3;have qa3:=t A u;have qb3:=j A u;cases hk2:Dr b.2.1
 ·have HF:Hid (R=false):=ae (by rw[F.aa,if_pos (.inr (.inr hk2))]);have kF:=y.tr u;clear t j B F gE;go_wp2;exact Cd
 have I:Hid (R=if a=b∨b.2.1=8 then true else if a.2.1=8∨a.2.2.1≠b.2.2.1 then false else EB a b):=ae (by rw[F.aa,if_neg];simp[B,gE,hk2]);clear F gE hk2 B hs;go_upto_region 3 with (fail);clear qa3 qb3;have E:∀W,K A W->∀i,W.cell? ⟨N,i,none⟩=(fR a).toArray[i]?:=λW k=>t W (u.tr k)
 have D:∀W,K A W->∀i,W.cell? ⟨N+1,i,none⟩=(fR b).toArray[i]?:=λW k=>j W (u.tr k)
 have qa5:=E A (K.rf _);have qb5:=D A (K.rf _);by_cases h8:a=b
 ·have HF:Hid (R=true):=ae (by rw[I.aa,if_pos (.inl h8)]);have Z:decide (a=b)=true:=by simp[h8]
  have kF:=y.tr u;clear I h8 t j E D;exact QN
 have Z:decide (a=b)=false:=by simp[h8]
 by_cases h9:b.2.1=8
 ·have HF:Hid (R=true):=ae (by rw[I.aa,if_pos (.inr h9)]);have uZ:(b.2.1==8)=true:=by simp[h9]
  have kF:=y.tr u;clear I h8 h9 t j E D;exact QN
 have uZ:(b.2.1==8)=false:=by simp[h9]
 have H:Hid (R=if a.2.1=8∨a.2.2.1≠b.2.2.1 then false else EB a b):=ae (by rw[I.aa,if_neg];simp[h8,h9]);clear I h8 h9;by_cases C:a.2.1=8
 ·have HF:Hid (R=false):=ae (by rw[H.aa,if_pos (.inl C)]);have g9:(a.2.1==8)=true:=by simp[C]
  have kF:=y.tr u;clear H C t j E D;exact QN
 have g9:(a.2.1==8)=false:=by simp[C]
 by_cases G:a.2.2.1=b.2.2.1;rotate_left
 ·have HF:Hid (R=false):=ae (by rw[H.aa,if_pos (.inr G)]);have g8:(a.2.2.1 != b.2.2.1)=true:=by simpa using G
  have kF:=y.tr u;clear H C G t j E D;exact QN
 have g8:(a.2.2.1 != b.2.2.1)=false:=by simpa using G
 have HF:Hid (R=EB a b):=ae (by rw[H.aa,if_neg];simp[C,G]);clear H C G;have Y:=ae (aq5 a.2.1 A);go_wp2_with (first|with_reducible refine adj rfl (.tmp 23) (.tmp 24) rfl a b rfl rfl ?_|fail)
 apply aM Y.aa;intro Q M;clear Y qa5 qb5 Z uZ g9 g8;have s5:=y.tr (u.tr M);go_upto_region 8 with (fail);have T:∀W,K Q W->∀i,W.cell? ⟨N,i,none⟩=(fR a).toArray[i]?:=λW k=>E W (M.tr k)
 have U:∀W,K Q W->∀i,W.cell? ⟨N+1,i,none⟩=(fR b).toArray[i]?:=λW k=>D W (M.tr k)
 clear t j E D;have qs:=And.intro T U;refine dV 9 ?_;iterate 7 refine au.i ?_
 refine au.is (.int .i64 (fS a.2.2 b.2.2)) (λV W kW hp=>?_) ?_
 ·(try simp only[cF,aO,aR,bW,bY,aJ]at hp)
  simp[bR,aF,List.lookup,hp,cW,execOp,aG,aJ,T,U,go_sem];apply aM (C2.aa W);intro Q M;grind
 refine au.i ?_;clear qs;intro V W kW hA;simp only[aO,aR,cC,aJ,Nat.reduceAdd]at hA;obtain⟨e0,e1,e2,e3,e4,e5,e6,e7,e8,-⟩:=hA;have xQ:=s5.tr kW;refine aH.call _ _ rfl axE ?_;apply aM (C1.aa W);intro w9 k9;refine⟨_,rfl,?_⟩;have kF:=xQ.tr k9;apply aH.pure;rfl;simp[aF,List.lookup,bj,execOp,aG,go_sem];rfl;refine aH.nil ?_;simp only[fZ,Act.put,sC,rI,rH,Nat.reduceAdd,bj,Nat.reduceEqDiff,reduceIte];clear C1 C2 T U e0 e1 e2 e3 e4 e5 e6 e7 e8 kW;go_wp2;exact Cd
def oN:ei (List dH) where
 size:=1
 rel l cs w:=∃v,cs=[v]/\fF l v w
 len:=by rintro _ _ _⟨v,rfl,_⟩;rfl
 one:=by rintro _ _ _⟨v,rfl,A,c,rfl,_⟩ u j;simp at j;subst j;rfl
 st:=by rintro _ _ _ _⟨v,rfl,h⟩ k;exact⟨v,rfl,eO _ _ _ _ h k⟩
theorem ayH:(prog.info? 53).map (λi=>(i.zero,i.size,i.bytes))=some (some (.slice none 0 0),1,24):=by rfl
theorem TFl:fY prog 206 53 (.slice none 0 0) 1 24:=⟨underlying206,ayH,rfl,ax⟩
theorem ara l v q(f:Nat) cs w(h:fF l v w)(Y:l.length<=1000000)(M:∀args W,(callFunc f args).run prog W=.ok (.enter f args) W)
 (H:∀W,K w W->∀x∈l,Calls prog f (#[rO x]++cs) W λe W'=>e=.returned (.bool (q x))/\K W W') :
 Calls prog 337 #[v,.func (.func f) #[] cs] w λe w'=>e=.returned (.bool (l.any q))/\K w w':=by
 have E:=K.rf w
 obtain⟨A,c,rfl,I⟩:=h
 have O:=ae I
 have R:=ae H
 clear H I
 go_enter func337,ntmps337
 go_wp2_with fail
 go_loopw [6,9] (fun _ i wr=>∃k:Nat,k<=l.length/\i=.int .i64 k/\Hid ((l.take k).any q=false)/\K w wr) (fun _ i _=>l.length-(intOf i).toNat)
 case atStart=>exact⟨0,af,rfl,ae aj,E⟩
 case round =>
  clear E;obtain⟨k,hk,rfl,hall,kr⟩:=hrel;by_cases u:k<l.length
  ·have fM:(k:Int)<l.length:=af;obtain⟨b,t,rfl,j,L⟩:=O.aa.Mc af;obtain⟨G,C,F,D,B⟩:=L k u;have T:=(kr.cell (p:=⟨b,t+k*5,none⟩) j).trans G;have d1:=(kr.cell (p:=⟨b,t+k*5+1,none⟩) j).trans C;have d2:=(kr.cell (p:=⟨b,t+k*5+2,none⟩) j).trans F;have d3:=(kr.cell (p:=⟨b,t+k*5+3,none⟩) j).trans D;have Q:=(kr.cell (p:=⟨b,t+k*5+4,none⟩) j).trans B;have HB:=ae (yr q l k u);have Kj:=ae (yw q l (k+1));have hm:=bZ u;clear G C F D B L;generalize l[k]=x at *;have hx:=ai.new wr 73 (fR x).toArray;have y:=hx.aU;have J:=ae (R.aa _ (kr.tr y) x hm);go_upto_region 4 with (fail);have S:=kr.tr y;generalize wr.alloc _=V at *;clear T d1 d2 d3 Q hm y kr;have N:=hx.cell;have Z:=M;clear M;go_wp2_with fail
   apply cG J.aa S;intro U X kW;clear N J hx;exact aiq
  ·exact air
theorem asF t u g w(hg:ai w g 73 (fR t).toArray) :
 Calls prog 338 #[rO u,.pointer (some ⟨g,0,none⟩)] w λe w'=>e=.returned (.bool (qT u t))/\K w w':=by
 have j:=ai.new w 73 (fR u).toArray
 have A:=j.aU
 have y:=hg.ay A
 have B:=ae λW=>apt u t W
 generalize qT u t=R at *
 clear hg
 go_enter func338,ntmps338
 go_upto_region 1 with (fail)
 generalize w.alloc _=D at *
 have q:=j.cell
 have E:=y.cell
 go_wp2_with fail
 apply cG (B.aa D) A
 intro G F C
 clear B q E j y
 go_wp2
 go_ret
 exact⟨rfl,C⟩
theorem acd f g v u w(hv:fF f v w)(Q:fF g u w)(T:f.length<=1000000)(hg:g.length<=1000000) :
 Calls prog 315 #[v,u] w λe w'=>e=.returned (.bool (o6 f g))/\K w w':=by
 have U:Hid (o6 f g=f.all λt=>g.any λu=>qT u t):=ae rfl
 generalize o6 f g=R at *
 have G:=K.rf w
 obtain⟨A,c,rfl,J⟩:=hv
 have X:=ae J
 have CS:=ae λW (k:K w W) q f cs T hC=>ara g u q f cs W (eO _ _ _ _ Q k) hg T hC
 obtain⟨D,d,rfl,-⟩:=Q
 clear J
 go_enter func315,ntmps315
 go_wp2_with fail
 go_loopw [6,9] (fun _ i wr=>∃k:Nat,k<=f.length/\i=.int .i64 k/\Hid ((f.take k).all (fun t=>g.any fun u=>qT u t)=true)/\K w wr) (fun _ i _=>f.length-(intOf i).toNat)
 case atStart=>exact⟨0,af,rfl,ae aj,G⟩
 case round =>
  clear G;obtain⟨k,hk,rfl,hall,kr⟩:=hrel;by_cases B:k<f.length
  ·have fM:(k:Int)<f.length:=af;obtain⟨b,y,rfl,j,O⟩:=X.aa.Mc af;obtain⟨I,E,H,F,C⟩:=O k B;have d0:=(kr.cell (p:=⟨b,y+k*5,none⟩) j).trans I;have d1:=(kr.cell (p:=⟨b,y+k*5+1,none⟩) j).trans E;have d2:=(kr.cell (p:=⟨b,y+k*5+2,none⟩) j).trans H;have d3:=(kr.cell (p:=⟨b,y+k*5+3,none⟩) j).trans F;have Y:=(kr.cell (p:=⟨b,y+k*5+4,none⟩) j).trans C;have HB:=ae (Im (λt=>g.any λu=>qT u t) f k B);have V:=ae (λ(h:(g.any λu=>qT u f[k])=false)=>show (f.all λt=>g.any λu=>qT u t)=false by
    rw[List.all_eq_false];exact⟨f[k],bZ B,by rw[h];simp⟩)
   clear I E H F C O;generalize f[k]=x at *;have hx:=ai.new wr 73 (fR x).toArray;have S:=hx.aU;go_upto_region 4 with (fail);have L:=kr.tr S;generalize wr.alloc _=Z at *;generalize wr.heap.size=M at hx⊢;clear d0 d1 d2 d3 Y S kr;have N:=ae (CS.aa Z L (λu=>qT u x) 338 #[.pointer (some ⟨M,0,none⟩)] (λ_ _=>cV) λW k u _=>asF x u M W (hx.ay k));clear hx;go_wp2_with fail
   apply cG N.aa L;intro w2 k2 kW;clear N;cases hx:g.any λu=>qT u x
   ·have HE:Hid (R=false):=ae (by rw[U.aa,V.aa hx]);clear hx;exact Wy
   ·have nR:Hid ((f.take (k+1)).all (λt=>g.any λu=>qT u t)=true):=ae QO;clear hx;exact IW
  ·have fM:¬(k:Int)<f.length:=af;have HE:Hid (R=true):=ae (by
    have:=hall.aa;rw[gQ af]at this;rw[U.aa];exact this)
   exact Lu
theorem arb l v q(f:Nat) cs w(h:aq oN l v w)(S:l.length<=1000000)(F:∀args W,(callFunc f args).run prog W=.ok (.enter f args) W)
 (C:∀W,K w W->∀x∈l,∀u,fF x u W->Calls prog f (#[u]++cs) W λe W'=>e=.returned (.bool (q x))/\K W W') :
 Calls prog 295 #[v,.func (.func f) #[] cs] w λe w'=>e=.returned (.bool (l.any q))/\K w w':=by
 have B:=K.rf w
 obtain⟨A,c,rfl,J,-⟩:=h
 have I:=ae C
 clear C
 go_enter func295,ntmps295
 go_wp2_with fail
 go_loopw [6,9] (fun _ i wr=>∃k:Nat,k<=l.length/\i=.int .i64 k/\Hid ((l.take k).any q=false)/\K w wr) (fun _ i _=>l.length-(intOf i).toNat)
 case atStart=>exact⟨0,af,rfl,ae aj,B⟩
 case round =>
  clear B;obtain⟨k,hk,rfl,hall,kr⟩:=hrel;by_cases j:k<l.length
  ·have fM:(k:Int)<l.length:=af;obtain⟨O,H,V,rfl,M,y,D,d⟩:=eB J k j ax;have HB:=ae (yr q l k j);have Kj:=ae (yw q l (k+1));have hm:=bZ j;generalize l[k]=x at *;obtain⟨U,rfl,t⟩:=y wr kr;obtain⟨L,N,rfl⟩:=cA t;have G:wr.cell? ⟨O,H+k,none⟩=some (.slice L x.length N):=by simpa [oN]using D wr kr
   have E:=ae (I.aa wr kr x hm _ t);clear M y D d hm t;have T:=F;clear F;go_wp2_with fail
   apply cG E.aa kr;intro Q R kW;clear G E;exact aiq
  ·exact air
theorem asG f e v u g w(t:fF f v w)(hg:ai w g 51 #[u])(j:ji e u w)(D:f.length<=1000000)(C:e.length<=1000000) :
 Calls prog 296 #[v,.pointer (some ⟨g,0,none⟩)] w λr w'=>r=.returned (.bool (mO f e))/\K w w':=by
 have y:=ae (aqP t D j C)
 obtain⟨F,G,rfl⟩:=yy j
 obtain⟨A,c,rfl⟩:=cA t
 generalize mO f e=R at *
 clear t j
 have q:=hg.cell
 go_enter func296,ntmps296
 go_wp2_with fail
 apply aM y.aa
 intro E B
 clear y q hg
 go_wp2
 go_ret
 exact⟨rfl,B⟩
theorem auo l e v C w(y:aq oN l v w)(j:ji e C w)(J:l.length<=1000000)(B:∀f∈l,f.length<=1000000)(L:e.length<=1000000) :
 Calls prog 257 #[v,C] w λr w'=>r=.returned (.bool (ky l e))/\K w w':=by
 have HR:Hid (ky l e=l.any λf=>mO f e):=ae rfl
 have G:=ae j
 have I:=ae y
 have E:=ae B
 obtain⟨F,M,rfl⟩:=yy j
 obtain⟨A,c,rfl⟩:=av y
 have hb:=ai.new w 51 #[.slice F e.length M]
 have t:=hb.aU
 generalize ky l e=R at *
 clear y j B
 go_enter func257,ntmps257
 go_upto_region 1 with (fail)
 generalize w.alloc _=N at *
 generalize w.heap.size=gb at hb⊢
 have D:=ae (arb l _ (λf=>mO f e) 296 #[.pointer (some ⟨gb,0,none⟩)] N (bo I.aa t) J (λ_ _=>cV) λW k f Q u O=>asG f e u _ gb W O (hb.ay k) (qC _ _ _ _ G.aa (t.tr k)) (E.aa f Q) L)
 go_wp2_with fail
 apply cG D.aa t
 intro S T H
 clear D hb
 go_wp2
 go_ret
 exact⟨fW,H⟩
theorem aup{α S}{l:List α}{A c w}(h:aq S l (.slice A l.length c) w) r(F:r<=l.length):aq S (l.take r) (.slice A r c) w:=by
 obtain⟨A',y,e,⟨css,j,u⟩,B⟩:=h
 injection e with e1 _ e3
 subst e1 e3
 have t:(l.take r).length=r:=aA
 refine⟨A,c,by rw[t],⟨css.take r,j.take r,?_⟩,af⟩
 rw[t,Ua S.size css j.lens r]
 have D:=j.Gl
 refine⟨FQ,λG=>?_⟩
 obtain⟨g,E,e,hg,C⟩:=u.2 aA
 grind
theorem ad3{α S}{l:List α}{A A' c w}(h:aq S l (.slice A l.length c) w) k(hk:k<=l.length)(hA:k<l.length->A'=A.map (·.add (k*S.size))):aq S (l.drop k) (.slice A' (l.length-k) (c-k)) w:=by
 obtain⟨L,G,e,⟨css,t,C⟩,H⟩:=h
 injection e with e1 _ e3
 subst e1 e3
 have B:(l.drop k).length=l.length-k:=aj
 refine⟨A',c-k,by rw[B],⟨css.drop k,t.drop k,?_⟩,af⟩
 rw[B,Ub S.size css t.lens k]
 have y:=t.Gl
 refine⟨by rw[List.length_drop,y,Nat.sub_mul],λD=>?_⟩
 rw[List.length_drop,y]at D
 have F:k<l.length:=by
  grind
 obtain⟨g,E,rfl,hg,I⟩:=C.2 af
 refine⟨g,E+k*S.size,by rw[hA F];simp[Addr.add_lit],hg,λj u J=>?_⟩
 grind
theorem awd ab:∀(l:List aK) (o:List aS),o.length<=16->(l.foldl (qJ ab) o).length<=16:=by
 intro l
 induction l with
 | nil=>intro o h;exact h
 | cons x l j =>
  grind [qJ]
theorem asH ab asks H va w(hb:aq cd ab H w)(ha:aq aV asks va w)(hlb:ab.length<=1000000)(Kb:asks.length<=1000000) :
 Calls prog 163 #[H,va] w λe w'=>∃v',e=.returned v'/\aB (λk=>k<w.heap.size) w.heap.size 26 cd (uB ab asks) v' w'/\K w w':=by
 have CB:=ae λW (k:K w W) a=>Fw ab a H W (bo hb k) hlb
 have HE:Hid (uB ab asks=asks.foldl (qJ ab) []):=ae rfl
 have wG:=ae λj=>awd ab (asks.take j) [] aj
 obtain⟨Ab,cb,rfl⟩:=av hb
 obtain⟨A,c,rfl,hl,-⟩:=ha
 generalize uB ab asks=R at *
 have T:=K.rf w
 have kN:=aB.nil (λk=>k<w.heap.size) w.heap.size 26 cd w
 clear hb
 go_enter func163,ntmps163
 go_wp2_with fail
 go_loopw [5,7,10] (fun o _ i W=>∃j:Nat,j<=asks.length/\i=.int .i64 j/\aB (fun k=>k<w.heap.size) w.heap.size 26 cd ((asks.take j).foldl (qJ ab) []) o W/\K w W) (fun _ _ i _=>asks.length-(intOf i).toNat)
 case atStart=>exact⟨0,af,rfl,kN,T⟩
 case round =>
  clear kN T;obtain⟨j,hj,rfl,D,kr⟩:=hrel;have hpl:=wG.aa j;by_cases L:j<asks.length
  ·have aP:(j:Int)<asks.length:=af;obtain⟨b1,Y,cs1,rfl,eS,Q,d0,d⟩:=eB hl j L ax;have y:=ae (fold_succ (qJ ab) asks [] j L);generalize asks[j]=x at *;generalize (asks.take j).foldl (qJ ab) []=P at *;obtain⟨B,ic⟩:∃B,Hid (B=(asks.take (j+1)).foldl (qJ ab) []):=⟨_,ae rfl⟩;replace y:Hid (B=qJ ab P x):=ae (ic.aa.trans y.aa);obtain⟨vf,ve,rfl,hf,he⟩:=Q w (K.rf w);have q9:∀i,i<8->wr.cell? ⟨b1,Y+j*8+i,none⟩=(aE x vf ve)[i]?:=λi hi=>(d wr kr i hi).trans Array.getElem?_toList
   have q0:wr.cell? ⟨b1,Y+j*8,none⟩=some (.int .i64 x.kind):=d0 wr kr;have I:=ai.new wr 126 (aE x vf ve);have J:=I.aU;obtain⟨Af,cf,rfl⟩:=cA hf;obtain⟨Ae,ce,rfl⟩:=av he;obtain⟨U,X,rfl⟩:=D.slice;clear d d0 hf he Q eS;go_upto_region 5 with (fail);have G:=D.st J;have F:=kr.tr J;generalize wr.alloc _=w3 at *;clear q9 q0 D J kr;by_cases E:P.length<16;rotate_left
   ·have Gt:¬(P.length:Int)<16:=af;have HP:Hid (B=P):=ae (by rw[y.aa];unfold qJ;rw[if_neg (by omega)]);clear E;go_wp2;go_roundw
    case rel=>exact⟨j+1,af,bI,by rw[<- ic.aa,HP.aa];exact G,F⟩
    case measure=>simp[intOf];omega
   have Gt:(P.length:Int)<16:=af;have C:=I.cell;have Z:=ae (CB.aa w3 F (ar x));go_wp2_with fail
   apply cG Z.aa F;intro w4 t gG;have cI:=G.st t;have M:=I.ay t;clear G t C Z;have C:=M.cell;cases hb0:dJ ab (ar x)
   ·have HP:Hid (B=P):=ae (by rw[y.aa];unfold qJ;rw[if_neg (by simp[hb0])]);clear C hb0;exact Lz
   have O:=ae (Fw P (ar x) _ w4 cI.aq af);go_wp2_with fail
   apply cG O.aa gG;intro V t lM;have cK:=cI.st t;have dY:=M.ay t;clear cI t C O;have C:=dY.cell;cases aN:dJ P (ar x);rotate_left
   ·have HP:Hid (B=P):=ae (by rw[y.aa];unfold qJ;rw[if_neg (by simp[aN])]);clear C hb0 aN;exact ahL
   have HP:Hid (B=P++[ar x]):=ae (by rw[y.aa];unfold qJ;rw[if_pos ⟨E,hb0,aN⟩]);clear hb0 aN y E;have hr:=eD.new (S:=cd) (e:=26) (x:=ar x) (v:=.agg (dt (ar x))) (w:=V) (N:=λk=>k<w.heap.size∨(Value.slice U P.length X).ownBlock=some k) (λW u=>rfl) 0 (eV _);have kA:=K.new V (.cells (dt (ar x)) 26);have iA:=cK.st kA;have qj:=lM.tr kA;have rr:=qj.size;clear cK;go_wp2_with (at_builtin;refine jN rfl _ _ 44 rfl _ 3 24 wU rfl rfl iA _ rfl (ar x) ?p1 ?p2 ?p3 ?_)
   case p1=>exact hr
   case p2=>omega
   case p3=>exact rr
   exact W7
  ·have aP:¬(j:Int)<asks.length:=af;have HR:Hid (R=(asks.take j).foldl (qJ ab) []):=ae Xa;generalize (asks.take j).foldl (qJ ab) []=P at *;obtain⟨U,X,rfl⟩:=D.slice;go_wp2;go_ret;exact⟨_,rfl,by rw[HR.aa];exact D,kr⟩
theorem asI l(n:Nat) v w(h:aq aV l v w)(D:∀x∈l,eJ x)(W:l.length<=1000000)(hn:n<18446744073709551616) :
 Calls prog 161 #[v,.int .u64 n] w λe w'=>∃v',e=.returned v'/\aB (λk=>k<w.heap.size) w.heap.size 126 aV (yL l n) v' w'/\K w w':=by
 have u:Hid (yL l n=(l.drop n).take 4):=ae rfl
 have C:=h
 obtain⟨A,c,rfl,E,U⟩:=h
 generalize yL l n=R at *
 have L:=K.rf w
 by_cases H:l.length<=n
 ·have T:Hid (R=[]):=ae (by rw[u.aa,List.drop_eq_nil_of_le H];rfl);have N:(l.length:Int)<=n:=af;have hO:=aB.nil (λk=>k<w.heap.size) w.heap.size 126 aV w;clear C E H;go_enter func161,ntmps161;go_wp2;go_ret;exact⟨_,rfl,by rw[T.aa];exact hO,L⟩
 have N:¬(l.length:Int)<=n:=af
 have V:(n:Int)<=c:=af
 have B:=ad3 C n af (A':=Option.map ((λx=>x) ∘ λx=>x.add (n*8)) A) (λ_=>rfl)
 have y:Hid (∀x∈(l.drop n).take 4,eJ x):=ae λx Q=>D x (List.mem_of_mem_drop (om Q))
 have t:((l.drop n).take 4).length<=1000000:=ba
 by_cases G:4<l.length-n
 ·have S:(4:Int)<((l.length-n:Nat):Int):=af;have j:=ae (aup (l:=l.drop n) (c:=c-n) (by rw[List.length_drop];exact B) 4 ba);rw[<- u.aa]at y t j;clear C E D B u G;go_enter func161,ntmps161;go_wp2_with fail
  try rw[show (min ((l.length-n:Nat):Int) 4).toNat=4 by omega]
  apply bS (Uk R _ w j.aa y.aa t);rintro O J⟨hO,k2⟩;clear j y t;exact ais
 ·have S:¬(4:Int)<((l.length-n:Nat):Int):=af;have F:R=l.drop n:=by rw[u.aa,gQ (by simp;omega)]
  have j:=ae B;rw[<- u.aa]at y t;rw[<- F]at j;have I:R.length=l.length-n:=by rw[F];simp
  have M:=ae I;clear C E D B u G F I;go_enter func161,ntmps161;go_wp2_with fail
  try rw[show (min ((l.length-n:Nat):Int) 4).toNat=l.length-n by omega]
  apply bS (Uk R _ w j.aa y.aa t);rintro O J⟨hO,k2⟩;clear j y t M;exact ais
theorem auq{l o:List (List dH)}{j}(h:j<l.length):o8 o (l.drop j)=if o.any (λs=>o6 s l[j])||(l.drop (j+1)).any (λs=>o6 s l[j])then o8 o (l.drop (j+1))else o8 (o++[l[j]]) (l.drop (j+1)):=by rw[List.drop_eq_getElem_cons h];rfl
theorem ad4(l:List dH):∀u∈l.flatMap fR,u.oneCell'=true:=by intro u j;obtain⟨t,-,j⟩:=List.mem_flatMap.1 j;simp at j;rcases j with rfl|rfl|rfl|rfl|rfl <;> rfl
theorem aqa l v w(h:aq oN l v w)(hlen:l.length<=500000)(hf:∀f∈l,f.length<=1000000) :
 Calls prog 294 #[v] w λe w'=>∃v',e=.returned v'/\aB (λk=>k<w.heap.size) w.heap.size 53 oN (sL l) v' w'/\K w w':=by
 have H:Hid (sL l=o8 [] (l.drop 0)):=ae rfl
 have HF:=ae hf
 have HH:=ae h
 obtain⟨A,c,rfl,hl,hc⟩:=h
 generalize sL l=R at *
 have kk:=K.rf w
 have kN:=aB.nil (λk=>k<w.heap.size) w.heap.size 53 oN w
 clear hf
 go_enter func294,ntmps294
 go_wp2
 go_step3
 go_wp2_with fail
 go_step3
 go_wp2_with fail
 go_loopw [3,4,5,7,9,12] (fun vo _ _ _ _ i W=>∃(j:Nat) (o:List (List dH)),j<=l.length/\i=.int .i64 (j:Int)/\o.length<=j/\(∀f∈o,f.length<=1000000)/\Hid (R=o8 o (l.drop j))/\aB (fun k=>k<w.heap.size) w.heap.size 53 oN o vo W/\K w W) (fun _ _ _ _ _ i _=>l.length-(intOf i).toNat)
 case atStart=>exact⟨0,[],af,rfl,aj,aj,H,kN,kk⟩
 case round =>
  clear kN kk H;obtain⟨j,o,hj,rfl,hoj,Ti,H,I,kr⟩:=hrel;obtain⟨Ao,co,rfl⟩:=I.slice;by_cases hlt:j<l.length;rotate_left
  ·have aP:¬(j:Int)<(l.length:Int):=af;have B:Hid (R=o):=ae (by rw[H.aa,List.drop_eq_nil_of_le (by omega)];rfl);go_wp2;go_ret;exact⟨_,rfl,by rw[B.aa];exact I,kr⟩
  have aP:(j:Int)<(l.length:Int):=af;obtain⟨b1,off,cs1,rfl,eS,hr1,d0,-⟩:=eB hl j hlt ax;have HS:=ae (auq (o:=o) hlt);rw[<- H.aa]at HS;have zh:=HF.aa _ (bZ hlt);generalize l[j]=f at *;obtain⟨vf,rfl,G8⟩:=hr1 w (K.rf w);have d0:=λW k=>by simpa [oN]using d0 W k
  have HV:=ae G8;obtain⟨Af,cf,rfl,hRf⟩:=G8;have HRf:=ae hRf;clear eS hr1 hRf H;have q1:=d0 wr kr;generalize wr=w1 at *;go_wp2_with fail
  go_loopw [7,19] (fun _ i W=>∃k:Nat,k<=o.length/\i=.int .i64 (k:Int)/\Hid ((o.take k).any (fun s=>o6 s f)=false)/\K w1 W) (fun _ i _=>o.length-(intOf i).toNat)
  case atStart=>exact⟨0,af,rfl,ae aj,K.rf _⟩
  case round =>
   obtain⟨k,hk,rfl,hall,G⟩:=hrel;have cJ:=kr.tr G;by_cases wj:k<o.length
   ·have fM:(k:Int)<(o.length:Int):=af;obtain⟨A9,c9,E,hlo,-⟩:=I.aq;injection E with E _ fO;subst E fO;obtain⟨b2,o2,cs2,rfl,Mv,O,d2,-⟩:=eB hlo k wj ax;have HB:=ae (yr (λs=>o6 s f) o k wj);have Kj:=ae (yw (λs=>o6 s f) o (k+1));have YV:=Ti _ (bZ wj);generalize o[k]=g at *;obtain⟨vg,rfl,F⟩:=O wr G;have q2:wr.cell? ⟨b2,o2+k,none⟩=some vg:=by simpa [oN]using d2 wr G
    have Q:=ae (acd g f vg _ wr F (eO _ _ _ _ HV.aa cJ) YV zh);obtain⟨Ag,cg,rfl⟩:=cA F;have HO:=ae (I.st G);clear Mv O d2 F hlo;go_wp2_with fail
    apply cG Q.aa G;intro w2 k2 kW;clear q2 Q;cases hx:o6 g f
    ·have nR:Hid ((o.take (k+1)).any (λs=>o6 s f)=false):=ae QO;clear hx;exact IW
    ·have B:Hid (R=o8 o (l.drop (j+1))):=ae (by rw[HS.aa,if_pos];rw[Kj.aa (by rw[HB.aa,hx];simp)];rfl);have D:=HO.aa.st k2;have kF:=kr.tr kW;clear hx I;go_wp2;go_roundw
     case rel=>exact⟨j+1,o,af,bI,af,Ti,B,D,kF⟩
     case measure=>simp[intOf];omega
   ·have fM:¬(k:Int)<(o.length:Int):=af;have HN:=ae (by
     have:=hall.aa;rw[gQ af]at this;exact this)
    have D:=I.st G;have N4:(j:Int)+1<=(c:Int):=af;have hjl:(j:Int)+1<=(l.length:Int):=af;clear hall;generalize wr=w4 at *;by_cases M5:j+1<l.length
    ·have hcn:¬c=j+1:=af;have R7:=ad3 HH.aa (j+1) af (A':=some ⟨b1,off+(j+1),none⟩) (λ_=>by simp[oN,Addr.add_lit]);obtain⟨A9,c9,E,Tj,-⟩:=R7;injection E with E fO p9;subst E p9;have BI:(l.drop (j+1)).length=l.length-(j+1):=aj;have HFD:Hid (∀g∈l.drop (j+1),g.length<=1000000):=ae λg hg=>HF.aa g (List.mem_of_mem_drop hg)
     have HDL:=ae BI;clear BI fO;go_wp2_with fail
     go_loopw [9,32] (fun _ i W=>∃k:Nat,k<=l.length-(j+1)/\i=.int .i64 (k:Int)/\Hid (((l.drop (j+1)).take k).any (fun s=>o6 s f)=false)/\K w4 W) (fun _ i _=>l.length-(j+1)-(intOf i).toNat)
     case atStart=>exact⟨0,af,rfl,ae aj,K.rf _⟩
     case round =>
      obtain⟨k,hk,rfl,hall,J⟩:=hrel;have t:=cJ.tr J;by_cases RG:k<l.length-(j+1)
      ·have aAy:(k:Int)<((l.length-(j+1):Nat):Int):=af;have RH:k<(l.drop (j+1)).length:=by rw[HDL.aa];exact RG
       obtain⟨b2,o2,cs2,T,Mv,O,d2,-⟩:=eB Tj k RH ax;injection T with T;injection T with T e3;subst T e3;have HB:=ae (yr (λs=>o6 s f) (l.drop (j+1)) k RH);have Kj:=ae (yw (λs=>o6 s f) (l.drop (j+1)) (k+1));have YV:=HFD.aa _ (bZ RH);generalize (l.drop (j+1))[k]=g at *;obtain⟨vg,rfl,F⟩:=O wr t;have q2:wr.cell? ⟨b1,off+(j+1)+k,none⟩=some vg:=by simpa [oN]using d2 wr t
       have Q:=ae (acd g f vg _ wr F (eO _ _ _ _ HV.aa t) YV zh);obtain⟨Ag,cg,rfl⟩:=cA F;clear Mv O d2 F RH;go_wp2_with fail
       apply cG Q.aa J;intro w2 k2 kW;clear q2 Q;cases hx:o6 g f
       ·have nR:Hid (((l.drop (j+1)).take (k+1)).any (λs=>o6 s f)=false):=ae QO;clear hx;exact IW
       ·have B:Hid (R=o8 o (l.drop (j+1))):=ae (by rw[HS.aa,if_pos];rw[Kj.aa (by rw[HB.aa,hx];simp)];simp);have y:=D.st kW;have kF:=cJ.tr kW;clear hx D;go_wp2;go_roundw
        case rel=>exact⟨j+1,o,af,bI,af,Ti,B,y,kF⟩
        case measure=>simp[intOf];omega
      ·have aAy:¬(k:Int)<((l.length-(j+1):Nat):Int):=af;have EY:=ae (by
        have:=hall.aa;rw[gQ (by rw[HDL.aa];omega)]at this;exact this)
       clear Tj;have B:Hid (R=o8 (o++[f]) (l.drop (j+1))):=ae ait;have CL:=ae (ab5 Af f.length cf (f.flatMap fR) wr ((HRf.aa.below t (aD _)).more t.size) (ad4 f) af);have y:=D.st J;clear D EY;go_wp2_with fail
       apply bS CL.aa;rintro X Z⟨C,M⟩;have N:=xA C;have V:Fx (λk=>k<wr.heap.size) (λW=>oN.rel f [X] W) Z:=λW u=>⟨X,rfl,xA (i6 C u λb hb hk=>by have:=(C.lt b hb).1;omega)⟩
       obtain⟨Y,L,rfl⟩:=cA N;have YW:=t.tr M;have hr:=eD.new (S:=oN) (e:=53) (v:=.slice Y f.length L) V 0 (eV _);have nu:=t.size;have bT:=y.blk;have kA:=K.new Z (.cells #[.slice Y f.length L] 53);have cI:=y.st (M.tr kA);have U:=YW.tr kA;have YX:=U.size;clear y C N V CL;go_wp2_with (at_builtin;refine jN rfl _ _ 206 rfl _ 1 24 TFl rfl rfl cI _ rfl f ?p1 ?p2 ?p3 ?_)
       case p1=>exact hr.less λk hk=>aiu
       case p2=>omega
       case p3=>exact YX
       intro v9 w9 bq bC cY aY;have vF:=U.trans aY;have YY:∀g∈o++[f],g.length<=1000000:=λg hg=>by exact aiv
       clear hr cI bC cY aY bT;go_wp2;go_roundw
       case rel=>exact⟨j+1,o++[f],af,bI,ba,YY,B,bq,vF⟩
       case measure=>simp[intOf];omega
    ·have akN:l.length=j+1:=af;have EY:Hid ((l.drop (j+1)).any (λs=>o6 s f)=false):=ae (by rw[List.drop_eq_nil_of_le (by omega)];rfl);have hz0:l.length-(j+1)=0:=af;have HJ:=ae akN;clear akN;go_wp2_with fail
     all_goals
      go_loopw [9,32] (fun _ i W=>i=.int .i64 0/\K w4 W) (fun _ _ _=>0)
     all_goals first|(exact⟨rfl,K.rf _⟩)|skip
     all_goals
      obtain⟨rfl,J⟩:=hrel
      have t:=cJ.tr J
      have B:Hid (R=o8 (o++[f]) (l.drop (j+1))):=ae ait
      have CL:=ae (ab5 Af f.length cf (f.flatMap fR) wr ((HRf.aa.below t (aD _)).more t.size) (ad4 f) af)
      have y:=D.st J
      clear D EY
      go_wp2_with fail
      apply bS CL.aa
      rintro X Z⟨C,M⟩
      have N:=xA C
      have V:Fx (λk=>k<wr.heap.size) (λW=>oN.rel f [X] W) Z:=λW u=>⟨X,rfl,xA (i6 C u λb hb hk=>by have:=(C.lt b hb).1;omega)⟩
      obtain⟨Y,L,rfl⟩:=cA N
      have YW:=t.tr M
      have hr:=eD.new (S:=oN) (e:=53) (v:=.slice Y f.length L) V 0 (eV _)
      have nu:=t.size
      have bT:=y.blk
      have kA:=K.new Z (.cells #[.slice Y f.length L] 53)
      have cI:=y.st (M.tr kA)
      have U:=YW.tr kA
      have YX:=U.size
      clear y C N V CL
      go_wp2_with (at_builtin;refine jN rfl _ _ 206 rfl _ 1 24 TFl rfl rfl cI _ rfl f ?p1 ?p2 ?p3 ?_)
      case p1=>exact hr.less λk hk=>aiu
      case p2=>omega
      case p3=>exact YX
      intro v9 w9 bq bC cY aY
      have vF:=U.trans aY
      have YY:∀g∈o++[f],g.length<=1000000:=λg hg=>by exact aiv
      clear hr cI bC cY aY bT
      go_wp2
      try rw[<- h]
      go_roundw
      case rel=>exact⟨j+1,o++[f],af,bI,ba,YY,B,bq,vF⟩
      case measure=>simp[intOf];omega
theorem aqb l a v w(h:aq cQ l v w)(F:l.length<=1000000) :
 Calls prog 189 #[v,.int .i64 a] w λe w'=>∃i:Int,e=.returned (.int .i64 i)/\K w w'/\decide (0<=i)=l.any λx=>decide (x=a):=by
 have y:=K.rf w
 obtain⟨A,c,rfl,D,-⟩:=h
 go_enter func189,ntmps189
 go_wp2_with fail
 go_loopw [5,8] (fun _ i wr=>∃k:Nat,k<=l.length/\i=.int .i64 k/\Hid ((l.take k).any (fun x=>decide (x=a))=false)/\K w wr) (fun _ i _=>l.length-(intOf i).toNat)
 case atStart=>exact⟨0,af,rfl,ae aj,y⟩
 case round =>
  clear y;obtain⟨k,hk,rfl,hall,kr⟩:=hrel;by_cases j:k<l.length
  ·have fM:(k:Int)<l.length:=af;obtain⟨H,G,rfl,u⟩:=ints_at D af;have HB:=ae (yr (λx=>decide (x=a)) l k j);have C:=ae (yw (λx=>decide (x=a)) l (k+1));have q:=u wr kr k j;generalize l[k]=t at *;clear u;by_cases hx:t=a
   ·have HE:=ae (C.aa Xp);have B:(a==t)=true:=IQ;clear hx;go_wp2;go_ret;exact⟨_,rfl,kr,by rw[HE.aa];simp⟩
   ·have E:Hid ((l.take (k+1)).any (λx=>decide (x=a))=false):=ae (by rw[HB.aa,hall.aa];simpa using hx);have B:(a==t)=false:=by simpa using λe=>hx e.symm
    clear hx;go_wp2;go_roundw
    case rel=>exact⟨k+1,af,bI,E,kr⟩
    case measure=>simp[intOf];omega
  ·exact WW
theorem abG l a v w(h:aq cQ l v w)(y:l.length<=1000000) :
 Calls prog 112 #[v,.int .i64 a] w λe w'=>e=.returned (.bool (decide (a∈l)))/\K w w':=by
 have t:=ae (aqb l a v w h y)
 obtain⟨A,c,rfl⟩:=av h
 have B:Hid (decide (a∈l)=l.any λx=>decide (x=a)):=ae Xq
 clear h
 generalize decide (a∈l)=R at *
 go_enter func112,ntmps112
 go_wp2_with fail
 refine t.aa.mono ?_
 rintro e D⟨i,rfl,u,j⟩
 have C:=ae j
 clear t j
 go_wp2
 go_ret
 exact⟨by rw[B.aa,<- C.aa];rfl,u⟩
theorem arc s cs v vc g w(h:sub s v w)(hg:ai w g 23 #[vc])(j:aq cQ cs vc w)(E:cs.length<=1000000) :
 Calls prog 293 #[v,.pointer (some ⟨g,0,none⟩)] w λe w'=>e=.returned (.bool (decide (s.cl∈cs)))/\K w w':=by
 obtain⟨vs,rfl,y⟩:=h
 obtain⟨A,d,rfl⟩:=cA y
 have hb:=ai.new w 246 (mZ s (.slice A s.f.length d))
 have t:=hb.aU
 have u:=hg.ay t
 have B:=ae (abG cs s.cl vc _ (bo j t) E)
 obtain⟨F,cc,rfl⟩:=av j
 generalize decide (s.cl∈cs)=R at *
 clear y hg j
 go_enter func293,ntmps293
 go_upto_region 1 with (fail)
 generalize w.alloc _=I at *
 have q:=hb.cell
 have D:=u.cell
 go_wp2_with fail
 apply cG B.aa t
 intro H G C
 clear B q D hb u
 go_wp2
 go_ret
 exact⟨rfl,C⟩
theorem apu l cs v vc w(h:aq iI l v w)(G:aq cQ cs vc w)(hlen:l.length<=500000)(hcl:cs.length<=1000000)(D:∀s∈l,s.f.length<=1000000) :
 Calls prog 255 #[v,vc] w λe w'=>∃v',e=.returned v'/\aq oN (sL ((qR l cs).map (·.f))) v' w'/\K w w':=by
 have HR:Hid (sL ((qR l cs).map (·.f))=sL ((l.filter λs=>decide (s.cl∈cs)).map (·.f))):=ae rfl
 have Z:=ae (Jb h)
 have HS:=ae D
 have HC:=ae G
 obtain⟨A,d,rfl⟩:=av h
 obtain⟨Ac,cc,rfl⟩:=av G
 have hb:=ai.new w 23 #[.slice Ac cs.length cc]
 have C:=hb.aU
 generalize sL ((qR l cs).map (·.f))=R at *
 clear h G D
 go_enter func255,ntmps255
 go_upto_region 1 with (fail)
 generalize w.alloc _=w1 at *
 have hz1:=C.size
 generalize jM:w.heap.size=lo at hb Z hz1⊢
 have C1:=ae (FA (λk=>lo<=k) l _ (λs=>decide (s.cl∈cs)) 293 #[.pointer (some ⟨lo,0,none⟩)] w1 (Z.aa.st C) af (λ_ _=>cV) λW k s _ u hu=>arc s cs u _ lo W hu (hb.ay k) (bo HC.aa (C.tr k)) hcl)
 clear jM
 go_wp2_with fail
 apply bS C1.aa
 rintro v2 B⟨E,X⟩
 have cR:=mw (λs=>decide (s.cl∈cs)) l
 have Bq:=IJ (q:=λs=>decide (s.cl∈cs)) HS.aa
 generalize l.filter (λs=>decide (s.cl∈cs))=t at *
 have bD:=C.tr X
 have YR:=E.blk
 obtain⟨O,c2,rfl⟩:=E.slice
 have H2:=ae (E.Hi (N:=λk=>lo<=k/\(Value.slice O t.length c2).ownBlock≠some k) (λk hk=>.inl hk.1) λk h1 h2=>h2.2 h1)
 have GQ:=ae Bq
 have kN:=aB.nil (λk=>lo<=k/\(Value.slice O t.length c2).ownBlock≠some k) B.heap.size 53 oN B
 have kk:=K.rf B
 clear C1 E hb Bq
 go_wp2_with fail
 go_loopw [6,8,14] (fun vo _ i W=>∃j:Nat,j<=t.length/\i=.int .i64 j/\aB (fun k=>lo<=k/\(Value.slice O t.length c2).ownBlock≠some k) B.heap.size 53 oN ((t.take j).map (·.f)) vo W/\K B W) (fun _ _ i _=>t.length-(intOf i).toNat)
 case atStart=>exact⟨0,af,rfl,fP,kk⟩
 case round =>
  clear kN kk;obtain⟨j,hj,rfl,y,kr⟩:=hrel;by_cases hlt:j<t.length
  ·have aP:(j:Int)<t.length:=af;obtain⟨b,M,c',cs1,T,fu,eS,F,d⟩:=H2.aa.at j hlt ax;injection T with T _ e2;subst T e2;have HT:Hid ((t.take (j+1)).map (·.f)=(t.take j).map (·.f)++[t[j].f]):=ae Wq;generalize t[j]=x at *;obtain⟨vf,rfl,G8⟩:=F.now;have Y:∀i,i<3->wr.cell? ⟨b,M+j*3+i,none⟩=(mZ x vf)[i]?:=λi hi=>(d wr (ag.aT kr _) i hi).trans Array.getElem?_toList
   have q0:wr.cell? ⟨b,M+j*3,none⟩=some (.int .i64 x.cl):=by first|exact Y 0 (by decide)|simp
   have zK:Fx (λk=>lo<=k/\(Value.slice (some ⟨b,M,none⟩) t.length c2).ownBlock≠some k) (λW=>oN.rel x.f [vf] W) B:=λW u=>by obtain⟨kM,e,h⟩:=F W u;simp at e;subst e;exact⟨_,rfl,h⟩
   obtain⟨H,L,rfl⟩:=cA G8;have hx:=ai.new wr 246 (mZ x (.slice H x.f.length L));have k3:=hx.aU;obtain⟨Ao,co,rfl⟩:=y.slice;have uO:((t.take j).map (·.f)).length<=500000:=ba;clear d F G8 eS;go_upto_region 6 with (fail);have J:=y.st k3;have V:=kr.tr k3;generalize wr.alloc _=w3 at *;clear Y q0 y;have q8:=hx.cell;generalize (t.take j).map (·.f)=o at *;have U:=J.blk;have hr:=eD.new (S:=oN) (e:=53) (v:=.slice H x.f.length L) (zK.k V) 0 (eV _);have kA:=K.new w3 (.cells #[.slice H x.f.length L] 53);have cI:=J.st kA;have gG:=V.tr kA;have gM:=gG.size;clear J zK;go_wp2_with (at_builtin;refine jN rfl _ _ 206 rfl _ 1 24 TFl rfl rfl cI _ rfl x.f ?p1 ?p2 ?p3 ?_)
   case p1 =>
    exact hr.less λk hk=>by
     rcases hk with hk|hk
     ·exact hk
     ·have h1:=U k hk;have h2:=X.size;grind
   case p2=>omega
   case p3=>simpa using gM
   intro v9 w9 bq bC cY aY;have vF:=gG.trans aY;clear hr cI bC cY aY U;go_wp2;go_roundw
   case rel=>exact⟨j+1,af,bI,by rw[HT.aa];exact bq,vF⟩
   case measure=>simp[intOf];omega
  ·have aP:¬(j:Int)<t.length:=af;have hE:(t.take j).map (·.f)=t.map (·.f):=aA;rw[hE]at y;have I:=ae (aqa (t.map (·.f)) _ wr y.aq ba (λf hf=>by obtain⟨s,D,rfl⟩:=List.mem_map.1 hf;exact GQ.aa s D));obtain⟨Ao,co,rfl⟩:=y.slice;rw[<- HR.aa]at I;have pF:=bD.tr kr;clear hE y;generalize t.map (·.f)=o at *;go_wp2_with fail
   apply rM I.aa pF;intro v5 w5 Q k5 kF;have CY:=ae Q.aq;obtain⟨A5,c5,rfl⟩:=Q.slice;clear I Q;go_wp2;go_ret;exact⟨_,rfl,CY.aa,kF⟩
