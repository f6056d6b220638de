/-
  The walk of norm.Implies (layer 7). Conditions: none.
-/
import Derived.Test.YtfndfpdhlbmboaaGreatMa22
import Derived.Test.YtfndfpdhlbmboaaGreatMz
set_option maxRecDepth 100000
set_option linter.constructorNameAsVariable false
set_option maxHeartbeats 16000000
set_option linter.unusedVariables false
set_option linter.unusedSimpArgs false
namespace Go.Proofs.YtfndfpdhlbmboaaGreat
open Go Go.RowKit _root_.Go.Proofs.Tryz
theorem aqL x y w d:(Op.equalIn (d+1+1+1) 73 (qP x) (qP y)).run prog w=.ok (decide (x=y)) w:=by obtain⟨a,b,c,d1,e⟩:=x;obtain⟨G,E,t,D,u⟩:=y;simp[go_sem,Kh];by_cases C:a=G <;> by_cases A:b=E <;> by_cases j:c=t <;> by_cases B:d1=D <;> by_cases F:e=u <;> simp[C,j,A,B,F]
theorem apI x y w:(binOp .eql 73 (qP x) (qP y)).run prog w=.ok (.bool (decide (x=y))) w:=by have h:(Op.equal 73 (qP x) (qP y)).run prog w=.ok (decide (x=y)) w:=aqL x y w 9997;exact ahm
theorem acQ{ops rest o a w Q}(A:o.guard=none) x y(C:o.op=.binOp .eql 73 x y 73) p q(t:a.eval x=qP p)(j:a.eval y=qP q)
 (h:wpList prog ops Q rest (a.put o.dst (.bool (decide (p=q)))) w):wpList prog ops Q (o :: rest) a w:=by
 refine wpList_plain A λK u=>?_
 have B:=apI p q w
 have hg:(eqGuard BinOp.eql 73 x y (qP p) (qP q)).run prog w=.ok () w:=by simp[eqGuard,go_sem]
 unfold Oper.wp execOp
 simp only[C,Sem.run_bind,Result.andThen_ok,t,j,hg,B,Sem.run_pure]
 exact u _ _ h
theorem ao4 a b w:Calls prog 339 #[qP a,qP b] w λe w'=>e=.returned (.bool (pX a b))/\K w w':=by
 have C:Hid (pX a b=if a.1≠b.1∨CG a.2.1=false∨CG b.2.1=false then false else if a=b∨b.2.1=8 then true else if a.2.1=8∨a.2.2.1≠b.2.2.1 then false else Ec a b):=ae rfl;have S:=ae λW=>asa a b W
 have T:=ae λW=>ab7 a.2.2 b.2.2 W
 generalize pX a b=R at *;have A:=K.lq w (.cells (fF a).toArray 73) (.cells (fF b).toArray 73);have hb:=(ah.new w 73 (fF a).toArray).alloc (.cells (fF b).toArray 73);have N:=ah.new (w.alloc (.cells (fF a).toArray 73)) 73 (fF b).toArray;have hz:(w.alloc (.cells (fF a).toArray 73)).heap.size=w.heap.size+1:=aj;rw[hz]at N;clear hz;go_enter func339,ntmps339;go_upto_region 1 with (fail);generalize World.alloc (World.alloc w _) _=J at *;have t:=hb.cells;have j:=N.cells;generalize w.heap.size=L at *;clear hb N;by_cases y:a.1=b.1;rotate_left
 ·have HF:Hid (R=false):=ae (by rw[C.aa,if_pos (.inl y)]);have hs:(a.1.toList==b.1.toList)=false:=by rw[KO];simpa using y
  have EP:=t J (K.rf _);have X:=j J (K.rf _);clear t j y;go_wp2;go_ret;exact⟨Dv,A⟩
 have hs:(a.1.toList==b.1.toList)=true:=by rw[KO];simpa using y
 have EP:=t J (K.rf _);have X:=j J (K.rf _);have CK1:=ae (aci a.2.1 J);go_wp2_with fail
 refine CK1.aa.mono ?_;rintro e w2⟨rfl,M⟩;clear CK1 EP X;cases fZ:CG a.2.1
 ·have HF:Hid (R=false):=ae (by rw[C.aa,if_pos (.inr (.inl fZ))]);have kF:=A.tr M;clear t j y C;go_wp2;exact Bz
 have CK2:=ae (aci b.2.1 w2);go_wp2_with fail
 refine CK2.aa.mono ?_;rintro e I⟨rfl,k3⟩;have u:=M.tr k3;clear CK2 M k3;cases hk2:CG b.2.1
 ·have HF:Hid (R=false):=ae (by rw[C.aa,if_pos (.inr (.inr hk2))]);have kF:=A.tr u;clear t j y C fZ;go_wp2;exact Bz
 have H:Hid (R=if a=b∨b.2.1=8 then true else if a.2.1=8∨a.2.2.1≠b.2.2.1 then false else Ec a b):=ae (by rw[C.aa,if_neg];simp[y,fZ,hk2]);clear C fZ hk2 y hs;go_upto_region 3 with (fail);have D:∀W,K I W->∀i,W.cell? ⟨L,i,none⟩=(fF a).toArray[i]?:=λW k=>t W (u.tr k)
 have B:∀W,K I W->∀i,W.cell? ⟨L+1,i,none⟩=(fF b).toArray[i]?:=λW k=>j W (u.tr k)
 have qa5:=D I (K.rf _);have qb5:=B I (K.rf _);by_cases h8:a=b
 ·have HF:Hid (R=true):=ae (by rw[H.aa,if_pos (.inl h8)]);have Z:decide (a=b)=true:=by simp[h8]
  have kF:=A.tr u;clear H h8 t j D B;exact Qq
 have Z:decide (a=b)=false:=by simp[h8]
 by_cases h9:b.2.1=8
 ·have HF:Hid (R=true):=ae (by rw[H.aa,if_pos (.inr h9)]);have U:(b.2.1==8)=true:=by simp[h9]
  have kF:=A.tr u;clear H h8 h9 t j D B;exact Qq
 have U:(b.2.1==8)=false:=by simp[h9]
 have F:Hid (R=if a.2.1=8∨a.2.2.1≠b.2.2.1 then false else Ec a b):=ae (by rw[H.aa,if_neg];simp[h8,h9]);clear H h8 h9;by_cases E:a.2.1=8
 ·have HF:Hid (R=false):=ae (by rw[F.aa,if_pos (.inl E)]);have g9:(a.2.1==8)=true:=by simp[E]
  have kF:=A.tr u;clear F E t j D B;exact Qq
 have g9:(a.2.1==8)=false:=by simp[E]
 by_cases G:a.2.2.1=b.2.2.1;rotate_left
 ·have HF:Hid (R=false):=ae (by rw[F.aa,if_pos (.inr G)]);have Y:(a.2.2.1 != b.2.2.1)=true:=by simpa using G
  have kF:=A.tr u;clear F E G t j D B;exact Qq
 have Y:(a.2.2.1 != b.2.2.1)=false:=by simpa using G
 have HF:Hid (R=Ec a b):=ae (by rw[F.aa,if_neg];simp[E,G]);clear F E G;have CA:=ae (aqH a.2.1 I);go_wp2_with (first|with_reducible refine acQ rfl (.tmp 23) (.tmp 24) rfl a b rfl rfl ?_|fail)
 refine CA.aa.mono ?_;rintro e w4⟨rfl,k4⟩;clear CA qa5 qb5 Z U g9 Y;have sc:=A.tr (u.tr k4);go_upto_region 8 with (fail);have O:∀W,K w4 W->∀i,W.cell? ⟨L,i,none⟩=(fF a).toArray[i]?:=λW k=>D W (k4.tr k)
 have Q:∀W,K w4 W->∀i,W.cell? ⟨L+1,i,none⟩=(fF b).toArray[i]?:=λW k=>B W (k4.tr k)
 clear t j D B;have qs:=And.intro O Q;refine dD 9 [([],[]),([],[]),([],[]),([],[]),([3],[(49,3)]),([],[]),([5],[(51,5)]),([4,6],[(50,4),(52,6)]),([1,2,7],[(47,1),(48,2),(53,7)]),([0,7,8],[(46,0),(54,8)]),([0,1,2,3,4,5,6,7,8,9],[(55,9)])] 56 ?_;iterate 7 refine au.i ?_
 refine au.is (.int .i64 (fG a.2.2 b.2.2)) (λV W kW hp=>?_) ?_
 ·(try simp only[cd,aO,aQ,bW,bY,aJ]at hp)
  simp[bP,aE,List.lookup,hp,cN,execOp,aF,aJ,O,Q,go_sem];refine (T.aa W).mono ?_;exact Bs
 refine au.i ?_;clear qs;intro V W kW hA;simp only[aO,aQ,cz,aJ,Nat.reduceAdd]at hA;obtain⟨e0,e1,e2,e3,e4,e5,e6,e7,e8,-⟩:=hA;have yN:=sc.tr kW;refine aH.call _ _ rfl awY ?_;refine (S.aa W).mono ?_;rintro e w9⟨rfl,k9⟩;refine⟨_,rfl,?_⟩;have kF:=yN.tr k9;apply aH.pure;rfl;simp[aE,List.lookup,ba,execOp,aF,go_sem];rfl;refine aH.nil ?_;simp only[fX,Act.put,rJ,qM,qL,Nat.reduceAdd,ba,Nat.reduceEqDiff,reduceIte];clear S T O Q e0 e1 e2 e3 e4 e5 e6 e7 e8 kW;go_wp2;exact Bz
def nS:dW (List dt) where
 size:=1
 rel l cs w:=∃v,cs=[v]/\fu l v w
 len:=by rintro _ _ _⟨v,rfl,_⟩;rfl
 one:=by rintro _ _ _⟨v,rfl,A,c,rfl,_⟩ u j;simp at j;subst j;rfl
 st:=by rintro _ _ _ _⟨v,rfl,h⟩ k;exact⟨v,rfl,eH _ _ _ _ h k⟩
theorem ayc:(prog.info? 53).map (λi=>(i.zero,i.size,i.bytes))=some (some (.slice none 0 0),1,24):=by kernel_rfl
theorem TFl:fK prog 206 53 (.slice none 0 0) 1 24:=⟨underlying206,ayc,rfl,ay⟩
theorem aqM l v q(f:Nat) cs w(h:fu l v w)(V:l.length<=1000000)(J:∀args W,(callFunc f args).run prog W=.ok (.enter f args) W)
 (I:∀W,K w W->∀x∈l,Calls prog f (#[qP x]++cs) W λe W'=>e=.returned (.bool (q x))/\K W W') :
 Calls prog 337 #[v,.func (.func f) #[] cs] w λe w'=>e=.returned (.bool (l.any q))/\K w w':=by
 have H:=K.rf w
 obtain⟨A,c,rfl,D⟩:=h
 have Q:=ae D
 have T:=ae I
 clear I D
 go_enter func337,ntmps337
 go_wp2_with fail
 go_loopw [6,9] (fun _ i wr=>∃k:Nat,k<=l.length/\i=.int .i64 k/\Hid ((l.take k).any q=false)/\K w wr) (fun _ i _=>l.length-(intOf i).toNat)
 case atStart=>exact⟨0,af,rfl,ae aj,H⟩
 case round =>
  clear H;obtain⟨k,hk,rfl,hall,kr⟩:=hrel;by_cases y:k<l.length
  ·have fA:(k:Int)<l.length:=af;obtain⟨b,t,rfl,j,L⟩:=Q.aa.LF af;obtain⟨E,C,F,G,M⟩:=L k y;have U:=(kr.cell (p:=⟨b,t+k*5,none⟩) j).trans E;have d1:=(kr.cell (p:=⟨b,t+k*5+1,none⟩) j).trans C;have d2:=(kr.cell (p:=⟨b,t+k*5+2,none⟩) j).trans F;have d3:=(kr.cell (p:=⟨b,t+k*5+3,none⟩) j).trans G;have S:=(kr.cell (p:=⟨b,t+k*5+4,none⟩) j).trans M;have HB:=ae (xP q l k y);have JR:=ae (xQ q l (k+1));have hm:=bS y;clear E C F G M L;generalize l[k]=x at *;have hx:=ah.new wr 73 (fF x).toArray;have u:=hx.aS;have B:=ae (T.aa _ (kr.tr u) x hm);go_upto_region 4 with (fail);have N:=kr.tr u;generalize wr.alloc _=Z at *;clear U d1 d2 d3 S hm u kr;have R:=hx.cell;have X:=J;clear J;go_wp2_with fail
   refine B.aa.mono ?_;rintro e Y⟨rfl,O⟩;have kW:=N.tr O;clear R B hx;exact ah5
  ·exact ah6
theorem asb t u g w(hg:ah w g 73 (fF t).toArray) :
 Calls prog 338 #[qP u,.pointer (some ⟨g,0,none⟩)] w λe w'=>e=.returned (.bool (pX u t))/\K w w':=by
 have j:=ah.new w 73 (fF u).toArray
 have B:=j.aS
 have A:=hg.av B
 have y:=ae λW=>ao4 u t W
 generalize pX u t=R at *
 clear hg
 go_enter func338,ntmps338
 go_upto_region 1 with (fail)
 generalize w.alloc _=F at *
 have q:=j.cell
 have D:=A.cell
 go_wp2_with fail
 refine (y.aa F).mono ?_
 rintro e G⟨rfl,C⟩
 have E:=B.tr C
 clear y q D j A
 go_wp2
 go_ret
 exact⟨rfl,E⟩
theorem abM f g v u w(X:fu f v w)(S:fu g u w)(Q:f.length<=1000000)(hg:g.length<=1000000) :
 Calls prog 315 #[v,u] w λe w'=>e=.returned (.bool (oo f g))/\K w w':=by
 have M:Hid (oo f g=f.all λt=>g.any λu=>pX u t):=ae rfl
 generalize oo f g=R at *
 have O:=K.rf w
 obtain⟨A,c,rfl,G⟩:=X
 have Y:=ae G
 have CS:=ae λW (k:K w W) q f cs Q hC=>aqM g u q f cs W (eH _ _ _ _ S k) hg Q hC
 obtain⟨D,d,rfl,-⟩:=S
 clear G
 go_enter func315,ntmps315
 go_wp2_with fail
 go_loopw [6,9] (fun _ i wr=>∃k:Nat,k<=f.length/\i=.int .i64 k/\Hid ((f.take k).all (fun t=>g.any fun u=>pX u t)=true)/\K w wr) (fun _ i _=>f.length-(intOf i).toNat)
 case atStart=>exact⟨0,af,rfl,ae aj,O⟩
 case round =>
  clear O;obtain⟨k,hk,rfl,hall,kr⟩:=hrel;by_cases B:k<f.length
  ·have Z:(k:Int)<f.length:=af;obtain⟨b,y,rfl,j,T⟩:=Y.aa.LF af;obtain⟨H,F,I,L,U⟩:=T k B;have d0:=(kr.cell (p:=⟨b,y+k*5,none⟩) j).trans H;have d1:=(kr.cell (p:=⟨b,y+k*5+1,none⟩) j).trans F;have d2:=(kr.cell (p:=⟨b,y+k*5+2,none⟩) j).trans I;have d3:=(kr.cell (p:=⟨b,y+k*5+3,none⟩) j).trans L;have d4:=(kr.cell (p:=⟨b,y+k*5+4,none⟩) j).trans U;have HB:=ae (Hh (λt=>g.any λu=>pX u t) f k B);have HNo:=ae (λ(h:(g.any λu=>pX u f[k])=false)=>show (f.all λt=>g.any λu=>pX u t)=false by
    rw[List.all_eq_false];exact⟨f[k],bS B,by rw[h];simp⟩)
   clear H F I L U T;generalize f[k]=x at *;have hx:=ah.new wr 73 (fF x).toArray;have J:=hx.aS;go_upto_region 4 with (fail);have C:=kr.tr J;generalize wr.alloc _=w3 at *;generalize wr.heap.size=N at hx⊢;clear d0 d1 d2 d3 d4 J kr;have E:=ae (CS.aa w3 C (λu=>pX u x) 338 #[.pointer (some ⟨N,0,none⟩)] (λ_ _=>fk) λW k u _=>asb x u N W (hx.av k));clear hx;go_wp2_with fail
   refine E.aa.mono ?_;rintro e w2⟨rfl,V⟩;have kW:=C.tr V;clear E;cases hx:g.any λu=>pX u x
   ·have HE:Hid (R=false):=ae (by rw[M.aa,HNo.aa hx]);clear hx;exact VZ
   ·have nJ:Hid ((f.take (k+1)).all (λt=>g.any λu=>pX u t)=true):=ae Qr;clear hx;exact Ih
  ·have Z:¬(k:Int)<f.length:=af;have HE:Hid (R=true):=ae (by
    have:=hall.aa;rw[fM af]at this;rw[M.aa];exact this)
   exact K3
theorem aqN l v q(f:Nat) cs w(h:aq nS l v w)(R:l.length<=1000000)(E:∀args W,(callFunc f args).run prog W=.ok (.enter f args) W)
 (D:∀W,K w W->∀x∈l,∀u,fu x u W->Calls prog f (#[u]++cs) W λe W'=>e=.returned (.bool (q x))/\K W W') :
 Calls prog 295 #[v,.func (.func f) #[] cs] w λe w'=>e=.returned (.bool (l.any q))/\K w w':=by
 have C:=K.rf w
 obtain⟨A,c,rfl,M,-⟩:=h
 have N:=ae D
 clear D
 go_enter func295,ntmps295
 go_wp2_with fail
 go_loopw [6,9] (fun _ i wr=>∃k:Nat,k<=l.length/\i=.int .i64 k/\Hid ((l.take k).any q=false)/\K w wr) (fun _ i _=>l.length-(intOf i).toNat)
 case atStart=>exact⟨0,af,rfl,ae aj,C⟩
 case round =>
  clear C;obtain⟨k,hk,rfl,hall,kr⟩:=hrel;by_cases t:k<l.length
  ·have fA:(k:Int)<l.length:=af;obtain⟨I,Q,T,rfl,J,B,F,d⟩:=ed M k t ay;have HB:=ae (xP q l k t);have JR:=ae (xQ q l (k+1));have hm:=bS t;generalize l[k]=x at *;obtain⟨S,rfl,j⟩:=B wr kr;obtain⟨O,L,rfl⟩:=b6 j;have G:wr.cell? ⟨I,Q+k,none⟩=some (.slice O x.length L):=by simpa [nS]using F wr kr
   have y:=ae (N.aa wr kr x hm _ j);clear J B F d hm j;have U:=E;clear E;go_wp2_with fail
   refine y.aa.mono ?_;rintro e V⟨rfl,H⟩;have kW:=kr.tr H;clear G y;exact ah5
  ·exact ah6
theorem asc f e v y g w(j:fu f v w)(hg:ah w g 51 #[y])(t:iU e y w)(D:f.length<=1000000)(C:e.length<=1000000) :
 Calls prog 296 #[v,.pointer (some ⟨g,0,none⟩)] w λr w'=>r=.returned (.bool (mL f e))/\K w w':=by
 have u:=ae (aqr j D t C)
 obtain⟨F,E,rfl⟩:=xR t
 obtain⟨A,c,rfl⟩:=b6 j
 generalize mL f e=R at *
 clear j t
 have q:=hg.cell
 go_enter func296,ntmps296
 go_wp2_with fail
 refine u.aa.mono ?_
 rintro r G⟨rfl,B⟩
 clear u q hg
 go_wp2
 go_ret
 exact⟨rfl,B⟩
theorem atV l e v D w(j:aq nS l v w)(t:iU e D w)(H:l.length<=1000000)(C:∀f∈l,f.length<=1000000)(F:e.length<=1000000) :
 Calls prog 257 #[v,D] w λr w'=>r=.returned (.bool (jJ l e))/\K w w':=by
 have HR:Hid (jJ l e=l.any λf=>mL f e):=ae rfl
 have S:=ae t
 have I:=ae j
 have J:=ae C
 obtain⟨O,G,rfl⟩:=xR t
 obtain⟨A,c,rfl⟩:=aw j
 have hb:=ah.new w 51 #[.slice O e.length G]
 have y:=hb.aS
 generalize jJ l e=R at *
 clear j t C
 go_enter func257,ntmps257
 go_upto_region 1 with (fail)
 generalize w.alloc _=Q at *
 generalize w.heap.size=gb at hb⊢
 have B:=ae (aqN l _ (λf=>mL f e) 296 #[.pointer (some ⟨gb,0,none⟩)] Q (bo I.aa y) H (λ_ _=>fk) λW k f M u N=>asc f e u _ gb W N (hb.av k) (pE _ _ _ _ S.aa (y.tr k)) (J.aa f M) F)
 go_wp2_with fail
 refine B.aa.mono ?_
 rintro r T⟨rfl,E⟩
 have L:=y.tr E
 clear B hb
 go_wp2
 go_ret
 exact⟨fE,L⟩
theorem atW{α S}{l:List α}{A c w}(h:aq S l (.slice A l.length c) w) r(D:r<=l.length):aq S (l.take r) (.slice A r c) w:=by
 obtain⟨A',I,e,⟨css,y,E⟩,J⟩:=h;injection e with e1 _ e3;subst e1 e3;have B:(l.take r).length=r:=aY;refine⟨A,c,by rw[B],⟨css.take r,y.take r,?_⟩,by rw[B];omega⟩;rw[B,Tv S.size css y.lens r];have C:=y.FQ;refine⟨by rw[nX,C];exact Nat.min_eq_left (Nat.mul_le_mul_right _ D),λF=>?_⟩;obtain⟨g,G,e,hg,H⟩:=E.2 (by rw[nX]at F;omega);refine⟨g,G,e,hg,λj u t=>H j u ?_⟩;rw[List.getElem?_take]at t;split at t
 ·exact t
 ·cases t
theorem adB{α S}{l:List α}{A A' c w}(h:aq S l (.slice A l.length c) w) k(hk:k<=l.length)(hA:k<l.length->A'=A.map (·.add (k*S.size))):aq S (l.drop k) (.slice A' (l.length-k) (c-k)) w:=by
 obtain⟨L,I,e,⟨css,y,E⟩,J⟩:=h;injection e with e1 _ e3;subst e1 e3;have B:(l.drop k).length=l.length-k:=aj;refine⟨A',c-k,by rw[B],⟨css.drop k,y.drop k,?_⟩,by rw[B];omega⟩;rw[B,Tw S.size css y.lens k];have t:=y.FQ;refine⟨by rw[List.length_drop,t,Nat.sub_mul],λC=>?_⟩;rw[List.length_drop,t]at C;have H:k<l.length:=by
  refine Decidable.byContradiction λhn=>?_
  have:k=l.length:=af;subst this;omega
 obtain⟨g,F,rfl,hg,G⟩:=E.2 (by rw[t];exact bz C (Nat.sub_le _ _));refine⟨g,F+k*S.size,by rw[hA H];simp[Addr.add_lit],hg,λj u D=>?_⟩;rw[Nat.add_assoc];refine G _ u ?_;rw[List.getElem?_drop]at D;exact D
theorem avH ab:∀(l:List aK) (o:List aR),o.length<=16->(l.foldl (pJ ab) o).length<=16:=by
 intro l
 induction l with
 | nil=>intro o h;exact h
 | cons x l j =>
  intro o h;refine j _ ?_;unfold pJ;split
  ·simp;omega
  ·exact h
theorem asd ab asks G va w(hb:aq b5 ab G w)(ha:aq aU asks va w)(hlb:ab.length<=1000000)(JJ:asks.length<=1000000) :
 Calls prog 163 #[G,va] w λe w'=>∃v',e=.returned v'/\aA (λk=>k<w.heap.size) w.heap.size 26 b5 (uU ab asks) v' w'/\K w w':=by
 have CB:=ae λW (k:K w W) a=>E3 ab a G W (bo hb k) hlb
 have HE:Hid (uU ab asks=asks.foldl (pJ ab) []):=ae rfl
 have vI:=ae λj=>avH ab (asks.take j) [] aj
 obtain⟨Ab,cb,rfl⟩:=aw hb
 obtain⟨A,c,rfl,hl,-⟩:=ha
 generalize uU ab asks=R at *
 have X:=K.rf w
 have js:=aA.nil (λk=>k<w.heap.size) w.heap.size 26 b5 w
 clear hb
 go_enter func163,ntmps163
 go_wp2_with fail
 go_loopw [5,7,10] (fun o _ i W=>∃j:Nat,j<=asks.length/\i=.int .i64 (j:Int)/\aA (fun k=>k<w.heap.size) w.heap.size 26 b5 ((asks.take j).foldl (pJ ab) []) o W/\K w W) (fun _ _ i _=>asks.length-(intOf i).toNat)
 case atStart=>exact⟨0,af,rfl,js,X⟩
 case round =>
  clear js X;obtain⟨j,hj,rfl,C,kr⟩:=hrel;have hpl:=vI.aa j;by_cases hlt:j<asks.length
  ·have aP:(j:Int)<(asks.length:Int):=af;obtain⟨O,off,cs1,rfl,eJ,V,d0,d⟩:=ed hl j hlt ay;have y:=ae (fold_succ (pJ ab) asks [] j hlt);generalize asks[j]=x at *;generalize (asks.take j).foldl (pJ ab) []=P at *;obtain⟨B,gL⟩:∃B,Hid (B=(asks.take (j+1)).foldl (pJ ab) []):=⟨_,ae rfl⟩;replace y:Hid (B=pJ ab P x):=ae (gL.aa.trans y.aa);obtain⟨vf,Y,rfl,Z,he⟩:=V w (K.rf w);have q9:∀i,i<8->wr.cell? ⟨O,off+j*8+i,none⟩=(aD x vf Y)[i]?:=λi hi=>(d wr kr i hi).trans Array.getElem?_toList
   have q0:wr.cell? ⟨O,off+j*8,none⟩=some (.int .i64 x.kind):=d0 wr kr;have F:=ah.new wr 126 (aD x vf Y);have H:=F.aS;obtain⟨Af,cf,rfl⟩:=b6 Z;obtain⟨Ae,ce,rfl⟩:=aw he;obtain⟨M,J,rfl⟩:=C.slice;clear d d0 Z he V eJ;go_upto_region 5 with (fail);have I:=C.st H;have D:=kr.tr H;generalize wr.alloc _=w3 at *;clear q9 q0 C H kr;by_cases E:P.length<16;rotate_left
   ·have FY:¬(P.length:Int)<16:=af;have HP:Hid (B=P):=ae (by rw[y.aa];unfold pJ;rw[if_neg (by omega)]);clear E;go_wp2;go_roundw
    case rel=>exact⟨j+1,af,bJ,by rw[<- gL.aa,HP.aa];exact I,D⟩
    case measure=>simp[intOf];omega
   have FY:(P.length:Int)<16:=af;have q8:=F.cell;have T:=ae (CB.aa w3 D (ar x));go_wp2_with fail
   refine T.aa.mono ?_;rintro e w4⟨rfl,t⟩;have gK:=D.tr t;have cB:=I.st t;have Q:=F.av t;clear I t q8 T;have q8:=Q.cell;cases hb0:dG ab (ar x)
   ·have HP:Hid (B=P):=ae (by rw[y.aa];unfold pJ;rw[if_neg (by simp[hb0])]);clear q8 hb0;exact K8
   have C4:=ae (E3 P (ar x) _ w4 cB.aq af);go_wp2_with fail
   refine C4.aa.mono ?_;rintro e L⟨rfl,t⟩;have lZ:=gK.tr t;have cC:=cB.st t;have dR:=Q.av t;clear cB t q8 C4;have q8:=dR.cell;cases aN:dG P (ar x);rotate_left
   ·have HP:Hid (B=P):=ae (by rw[y.aa];unfold pJ;rw[if_neg (by simp[aN])]);exact ahs
   have HP:Hid (B=P++[ar x]):=ae (by rw[y.aa];unfold pJ;rw[if_pos ⟨E,hb0,aN⟩]);clear hb0 aN y E;have hr:=ew.new (S:=b5) (e:=26) (x:=ar x) (v:=.agg (df (ar x))) (w:=L) (N:=λk=>k<w.heap.size∨(Value.slice M P.length J).ownBlock=some k) (λW u=>rfl) 0 (eV _);have U:=K.new L (.cells (df (ar x)) 26);have ij:=cC.st U;have pz:=lZ.tr U;have qv:=pz.size;clear cC;go_wp2_with (at_builtin;refine jt rfl _ _ 44 rfl _ 3 24 vX rfl rfl ij _ rfl (ar x) ?p1 ?p2 ?p3 ?_)
   case p1=>exact hr
   case p2=>omega
   case p3=>exact qv
   exact Ws
  ·have aP:¬(j:Int)<(asks.length:Int):=af;have HR:Hid (R=(asks.take j).foldl (pJ ab) []):=ae Wt;generalize (asks.take j).foldl (pJ ab) []=P at *;obtain⟨M,J,rfl⟩:=C.slice;go_wp2;go_ret;exact⟨_,rfl,by rw[HR.aa];exact C,kr⟩
theorem ase l(n:Nat) v w(h:aq aU l v w)(B:∀x∈l,eB x)(N:l.length<=1000000)(hn:n<18446744073709551616) :
 Calls prog 161 #[v,.int .u64 (n:Int)] w λe w'=>∃v',e=.returned v'/\aA (λk=>k<w.heap.size) w.heap.size 126 aU (zJ l n) v' w'/\K w w':=by
 have j:Hid (zJ l n=(l.drop n).take 4):=ae rfl
 have u:=h
 obtain⟨A,c,rfl,C,M⟩:=h
 generalize zJ l n=R at *
 have I:=K.rf w
 by_cases E:l.length<=n
 ·have G:Hid (R=[]):=ae (by rw[j.aa,List.drop_eq_nil_of_le E];rfl);have J:(l.length:Int)<=(n:Int):=af;have hO:=aA.nil (λk=>k<w.heap.size) w.heap.size 126 aU w;clear u C E;go_enter func161,ntmps161;go_wp2;go_ret;exact⟨_,rfl,by rw[G.aa];exact hO,I⟩
 have J:¬(l.length:Int)<=(n:Int):=af
 have O:(n:Int)<=(c:Int):=af
 have t:=adB u n af (A':=Option.map ((λx=>x) ∘ λx=>x.add (n*8)) A) (λ_=>rfl)
 have HS:Hid (∀x∈(l.drop n).take 4,eB x):=ae λx H=>B x (List.mem_of_mem_drop (lM H))
 have kP:((l.drop n).take 4).length<=1000000:=aY
 by_cases D:4<l.length-n
 ·have F:(4:Int)<((l.length-n:Nat):Int):=af;have H2:=ae (atW (l:=l.drop n) (c:=c-n) (by rw[List.length_drop];exact t) 4 aY);rw[<- j.aa]at HS kP H2;clear u C B t j D;go_enter func161,ntmps161;go_wp2_with fail
  try rw[show (min ((l.length-n:Nat):Int) 4).toNat=4 by omega]
  exact ah7
 ·have F:¬(4:Int)<((l.length-n:Nat):Int):=af;have y:R=l.drop n:=by rw[j.aa,fM (by simp;omega)]
  have H2:=ae t;rw[<- j.aa]at HS kP;rw[<- y]at H2;have L:R.length=l.length-n:=by rw[y];simp
  clear u C B t j D y L;go_enter func161,ntmps161;go_wp2_with fail
  try rw[show (min ((l.length-n:Nat):Int) 4).toNat=l.length-n by omega]
  exact ah7
theorem atX{l o:List (List dt)}{j}(h:j<l.length):oq o (l.drop j)=if o.any (λs=>oo s l[j])||(l.drop (j+1)).any (λs=>oo s l[j])then oq o (l.drop (j+1))else oq (o++[l[j]]) (l.drop (j+1)):=by rw[List.drop_eq_getElem_cons h];rfl
theorem adC(l:List dt):∀u∈l.flatMap fF,u.oneCell'=true:=by intro u j;obtain⟨t,-,j⟩:=List.mem_flatMap.1 j;simp at j;rcases j with rfl|rfl|rfl|rfl|rfl <;> rfl
theorem apJ l v w(h:aq nS l v w)(hlen:l.length<=500000)(hf:∀f∈l,f.length<=1000000) :
 Calls prog 294 #[v] w λe w'=>∃v',e=.returned v'/\aA (λk=>k<w.heap.size) w.heap.size 53 nS (rS l) v' w'/\K w w':=by
 have G:Hid (rS l=oq [] (l.drop 0)):=ae rfl
 have HF:=ae hf
 have HH:=ae h
 obtain⟨A,c,rfl,hl,hc⟩:=h
 generalize rS l=R at *
 have kk:=K.rf w
 have js:=aA.nil (λk=>k<w.heap.size) w.heap.size 53 nS w
 clear hf
 go_enter func294,ntmps294
 go_wp2
 go_step3
 go_wp2_with fail
 go_step3
 go_wp2_with fail
 go_loopw [3,4,5,7,9,12] (fun vo _ _ _ _ i W=>∃(j:Nat) (o:List (List dt)),j<=l.length/\i=.int .i64 (j:Int)/\o.length<=j/\(∀f∈o,f.length<=1000000)/\Hid (R=oq o (l.drop j))/\aA (fun k=>k<w.heap.size) w.heap.size 53 nS o vo W/\K w W) (fun _ _ _ _ _ i _=>l.length-(intOf i).toNat)
 case atStart=>exact⟨0,[],af,rfl,aj,aj,G,js,kk⟩
 case round =>
  clear js kk G;obtain⟨j,o,hj,rfl,hoj,SP,G,I,kr⟩:=hrel;obtain⟨Ao,co,rfl⟩:=I.slice;by_cases hlt:j<l.length;rotate_left
  ·have aP:¬(j:Int)<(l.length:Int):=af;have B:Hid (R=o):=ae (by rw[G.aa,List.drop_eq_nil_of_le (by omega)];rfl);go_wp2;go_ret;exact⟨_,rfl,by rw[B.aa];exact I,kr⟩
  have aP:(j:Int)<(l.length:Int):=af;obtain⟨b1,off,cs1,rfl,eJ,hr1,d0,-⟩:=ed hl j hlt ay;have HS:=ae (atX (o:=o) hlt);rw[<- G.aa]at HS;have yJ:=HF.aa _ (bS hlt);generalize l[j]=f at *;obtain⟨vf,rfl,GC⟩:=hr1 w (K.rf w);have d0:=λW k=>by simpa [nS]using d0 W k
  have HV:=ae GC;obtain⟨Af,cf,rfl,hRf⟩:=GC;have HRf:=ae hRf;clear eJ hr1 hRf G;have q1:=d0 wr kr;generalize wr=w1 at *;go_wp2_with fail
  go_loopw [7,19] (fun _ i W=>∃k:Nat,k<=o.length/\i=.int .i64 (k:Int)/\Hid ((o.take k).any (fun s=>oo s f)=false)/\K w1 W) (fun _ i _=>o.length-(intOf i).toNat)
  case atStart=>exact⟨0,af,rfl,ae aj,K.rf _⟩
  case round =>
   obtain⟨k,hk,rfl,hall,H⟩:=hrel;have cH:=kr.tr H;by_cases vA:k<o.length
   ·have fA:(k:Int)<(o.length:Int):=af;obtain⟨A9,c9,E,hlo,-⟩:=I.aq;injection E with E _ fD;subst E fD;obtain⟨b2,o2,cs2,rfl,LZ,U,d2,-⟩:=ed hlo k vA ay;have HB:=ae (xP (λs=>oo s f) o k vA);have JR:=ae (xQ (λs=>oo s f) o (k+1));have Yu:=SP _ (bS vA);generalize o[k]=g at *;obtain⟨vg,rfl,F⟩:=U wr H;have q2:wr.cell? ⟨b2,o2+k,none⟩=some vg:=by simpa [nS]using d2 wr H
    have O:=ae (abM g f vg _ wr F (eH _ _ _ _ HV.aa cH) Yu yJ);obtain⟨Ag,cg,rfl⟩:=b6 F;have HO:=ae (I.st H);clear LZ U d2 F hlo;go_wp2_with fail
    refine O.aa.mono ?_;rintro e w2⟨rfl,k2⟩;have kW:=H.tr k2;clear q2 O;cases hx:oo g f
    ·have nJ:Hid ((o.take (k+1)).any (λs=>oo s f)=false):=ae Qr;clear hx;exact Ih
    ·have B:Hid (R=oq o (l.drop (j+1))):=ae (by rw[HS.aa,if_pos];rw[JR.aa (by rw[HB.aa,hx];simp)];rfl);have D:=HO.aa.st k2;have kF:=kr.tr kW;clear hx I;go_wp2;go_roundw
     case rel=>exact⟨j+1,o,af,bJ,af,SP,B,D,kF⟩
     case measure=>simp[intOf];omega
   ·have fA:¬(k:Int)<(o.length:Int):=af;have HN:=ae (by
     have:=hall.aa;rw[fM af]at this;exact this)
    have D:=I.st H;clear hall;generalize wr=w4 at *;by_cases MI:j+1<l.length
    ·have hcn:¬c=j+1:=af;have RA:=adB HH.aa (j+1) af (A':=some ⟨b1,off+(j+1),none⟩) (λ_=>by simp[nS,Addr.add_lit]);obtain⟨A9,c9,E,SQ,-⟩:=RA;injection E with E fD pr;subst E pr;have Be:(l.drop (j+1)).length=l.length-(j+1):=aj;have HFD:Hid (∀g∈l.drop (j+1),g.length<=1000000):=ae λg hg=>HF.aa g (List.mem_of_mem_drop hg)
     have HDL:=ae Be;clear Be fD;go_wp2_with fail
     go_loopw [9,32] (fun _ i W=>∃k:Nat,k<=l.length-(j+1)/\i=.int .i64 (k:Int)/\Hid (((l.drop (j+1)).take k).any (fun s=>oo s f)=false)/\K w4 W) (fun _ i _=>l.length-(j+1)-(intOf i).toNat)
     case atStart=>exact⟨0,af,rfl,ae aj,K.rf _⟩
     case round =>
      obtain⟨k,hk,rfl,hall,J⟩:=hrel;have t:=cH.tr J;by_cases Rj:k<l.length-(j+1)
      ·have aAc:(k:Int)<((l.length-(j+1):Nat):Int):=af;have Rk:k<(l.drop (j+1)).length:=by rw[HDL.aa];exact Rj
       obtain⟨b2,o2,cs2,T,LZ,U,d2,-⟩:=ed SQ k Rk ay;injection T with T;injection T with T e3;subst T e3;have HB:=ae (xP (λs=>oo s f) (l.drop (j+1)) k Rk);have JR:=ae (xQ (λs=>oo s f) (l.drop (j+1)) (k+1));have Yu:=HFD.aa _ (bS Rk);generalize (l.drop (j+1))[k]=g at *;obtain⟨vg,rfl,F⟩:=U wr t;have q2:wr.cell? ⟨b1,off+(j+1)+k,none⟩=some vg:=by simpa [nS]using d2 wr t
       have O:=ae (abM g f vg _ wr F (eH _ _ _ _ HV.aa t) Yu yJ);obtain⟨Ag,cg,rfl⟩:=b6 F;clear LZ U d2 F Rk;go_wp2_with fail
       refine O.aa.mono ?_;rintro e w2⟨rfl,k2⟩;have kW:=J.tr k2;clear q2 O;cases hx:oo g f
       ·have nJ:Hid (((l.drop (j+1)).take (k+1)).any (λs=>oo s f)=false):=ae Qr;clear hx;exact Ih
       ·have B:Hid (R=oq o (l.drop (j+1))):=ae (by rw[HS.aa,if_pos];rw[JR.aa (by rw[HB.aa,hx];simp)];simp);have C:=D.st kW;have kF:=cH.tr kW;clear hx D;go_wp2;go_roundw
        case rel=>exact⟨j+1,o,af,bJ,af,SP,B,C,kF⟩
        case measure=>simp[intOf];omega
      ·have aAc:¬(k:Int)<((l.length-(j+1):Nat):Int):=af;have Ew:=ae (by
        have:=hall.aa;rw[fM (by rw[HDL.aa];omega)]at this;exact this)
       clear SQ;have B:Hid (R=oq (o++[f]) (l.drop (j+1))):=ae ah8;have CL:=ae (abE Af f.length cf (f.flatMap fF) wr ((HRf.aa.below t (aC _)).more t.size) (adC f) af);have C:=D.st J;clear D Ew;go_wp2_with fail
       refine CL.aa.mono ?_;rintro e w6⟨N,rfl,y,Q⟩;have Y:=wP y;have V:Fx (λk=>k<wr.heap.size) (λW=>nS.rel f [N] W) w6:=λW u=>⟨N,rfl,wP (iK y u λb hb hk=>by have:=(y.lt b hb).1;omega)⟩
       obtain⟨X,M,rfl⟩:=b6 Y;have Yv:=t.tr Q;have L:=ew.new (S:=nS) (e:=53) (v:=.slice X f.length M) V 0 (eV _);have nt:=t.size;have bR:=C.blk;have Z:=K.new w6 (.cells #[.slice X f.length M] 53);have cB:=C.st (Q.tr Z);have Mc:=Yv.tr Z;have Yw:=Mc.size;clear C y Y V CL;go_wp2_with (at_builtin;refine jt rfl _ _ 206 rfl _ 1 24 TFl rfl rfl cB _ rfl f ?p1 ?p2 ?p3 ?_)
       case p1=>exact L.less λk hk=>ah9
       case p2=>omega
       case p3=>exact Yw
       intro v9 w9 bq bB cQ aZ;have ui:=Mc.trans aZ;have Yx:∀g∈o++[f],g.length<=1000000:=λg hg=>by exact aia
       clear L cB bB cQ aZ bR;go_wp2;go_roundw
       case rel=>exact⟨j+1,o++[f],af,bJ,aY,Yx,B,bq,ui⟩
       case measure=>simp[intOf];omega
    ·have aAd:l.length=j+1:=af;have Ew:Hid ((l.drop (j+1)).any (λs=>oo s f)=false):=ae (by rw[List.drop_eq_nil_of_le (by omega)];rfl);have hz0:l.length-(j+1)=0:=af;clear aAd;go_wp2_with fail
     all_goals
      go_loopw [9,32] (fun _ i W=>i=.int .i64 0/\K w4 W) (fun _ _ _=>0)
     all_goals first|(exact⟨rfl,K.rf _⟩)|skip
     all_goals
      obtain⟨rfl,J⟩:=hrel
      have t:=cH.tr J
      have B:Hid (R=oq (o++[f]) (l.drop (j+1))):=ae ah8
      have CL:=ae (abE Af f.length cf (f.flatMap fF) wr ((HRf.aa.below t (aC _)).more t.size) (adC f) af)
      have C:=D.st J
      clear D Ew
      go_wp2_with fail
      refine CL.aa.mono ?_
      rintro e w6⟨N,rfl,y,Q⟩
      have Y:=wP y
      have V:Fx (λk=>k<wr.heap.size) (λW=>nS.rel f [N] W) w6:=λW u=>⟨N,rfl,wP (iK y u λb hb hk=>by have:=(y.lt b hb).1;omega)⟩
      obtain⟨X,M,rfl⟩:=b6 Y
      have Yv:=t.tr Q
      have L:=ew.new (S:=nS) (e:=53) (v:=.slice X f.length M) V 0 (eV _)
      have nt:=t.size
      have bR:=C.blk
      have Z:=K.new w6 (.cells #[.slice X f.length M] 53)
      have cB:=C.st (Q.tr Z)
      have Mc:=Yv.tr Z
      have Yw:=Mc.size
      clear C y Y V CL
      go_wp2_with (at_builtin;refine jt rfl _ _ 206 rfl _ 1 24 TFl rfl rfl cB _ rfl f ?p1 ?p2 ?p3 ?_)
      case p1=>exact L.less λk hk=>ah9
      case p2=>omega
      case p3=>exact Yw
      intro v9 w9 bq bB cQ aZ
      have ui:=Mc.trans aZ
      have Yx:∀g∈o++[f],g.length<=1000000:=λg hg=>by exact aia
      clear L cB bB cQ aZ bR
      go_wp2
      try rw[<- h]
      go_roundw
      case rel=>exact⟨j+1,o++[f],af,bJ,aY,Yx,B,bq,ui⟩
      case measure=>simp[intOf];omega
theorem apK l a v w(h:aq cR l v w)(G:l.length<=1000000) :
 Calls prog 189 #[v,.int .i64 a] w λe w'=>∃i:Int,e=.returned (.int .i64 i)/\K w w'/\decide (0<=i)=l.any λx=>decide (x=a):=by
 have y:=K.rf w
 obtain⟨A,c,rfl,E,-⟩:=h
 go_enter func189,ntmps189
 go_wp2_with fail
 go_loopw [5,8] (fun _ i wr=>∃k:Nat,k<=l.length/\i=.int .i64 (k:Int)/\Hid ((l.take k).any (fun x=>decide (x=a))=false)/\K w wr) (fun _ i _=>l.length-(intOf i).toNat)
 case atStart=>exact⟨0,af,rfl,ae aj,y⟩
 case round =>
  clear y;obtain⟨k,hk,rfl,hall,kr⟩:=hrel;by_cases j:k<l.length
  ·have fA:(k:Int)<(l.length:Int):=af;obtain⟨F,H,rfl,u⟩:=ints_at E af;have HB:=ae (xP (λx=>decide (x=a)) l k j);have D:=ae (xQ (λx=>decide (x=a)) l (k+1));have q:=u wr kr k j;generalize l[k]=t at *;clear u;by_cases hx:t=a
   ·have HE:=ae (D.aa WN);have C:(a==t)=true:=Dn;clear hx;go_wp2;go_ret;exact⟨_,rfl,kr,by rw[HE.aa];simp⟩
   ·have B:Hid ((l.take (k+1)).any (λx=>decide (x=a))=false):=ae (by rw[HB.aa,hall.aa];simpa using hx);have C:(a==t)=false:=by simpa using λe=>hx e.symm
    clear hx;go_wp2;go_roundw
    case rel=>exact⟨k+1,af,bJ,B,kr⟩
    case measure=>simp[intOf];omega
  ·exact aht
theorem abf l a v w(h:aq cR l v w)(u:l.length<=1000000) :
 Calls prog 112 #[v,.int .i64 a] w λe w'=>e=.returned (.bool (decide (a∈l)))/\K w w':=by
 have t:=ae (apK l a v w h u)
 obtain⟨A,c,rfl⟩:=aw h
 have C:Hid (decide (a∈l)=l.any λx=>decide (x=a)):=ae Qs
 clear h
 generalize decide (a∈l)=R at *
 go_enter func112,ntmps112
 go_wp2_with fail
 refine t.aa.mono ?_
 rintro e D⟨i,rfl,B,j⟩
 have y:=ae j
 clear t j
 go_wp2
 go_ret
 exact⟨by rw[C.aa,<- y.aa];rfl,B⟩
theorem aqO s cs v vc g w(h:sub s v w)(hg:ah w g 23 #[vc])(j:aq cR cs vc w)(C:cs.length<=1000000) :
 Calls prog 293 #[v,.pointer (some ⟨g,0,none⟩)] w λe w'=>e=.returned (.bool (decide (s.cl∈cs)))/\K w w':=by
 obtain⟨vs,rfl,B⟩:=h
 obtain⟨A,d,rfl⟩:=b6 B
 have hb:=ah.new w 246 (mz s (.slice A s.f.length d))
 have t:=hb.aS
 have y:=hg.av t
 have u:=ae (abf cs s.cl vc _ (bo j t) C)
 obtain⟨G,cc,rfl⟩:=aw j
 generalize decide (s.cl∈cs)=R at *
 clear B hg j
 go_enter func293,ntmps293
 go_upto_region 1 with (fail)
 generalize w.alloc _=H at *
 have q:=hb.cell
 have E:=y.cell
 go_wp2_with fail
 refine u.aa.mono ?_
 rintro r I⟨rfl,D⟩
 have F:=t.tr D
 clear u q E hb y
 go_wp2
 go_ret
 exact⟨rfl,F⟩
theorem ao5 l cs v vc w(h:aq iu l v w)(F:aq cR cs vc w)(hlen:l.length<=500000)(hcl:cs.length<=1000000)(E:∀s∈l,s.f.length<=1000000) :
 Calls prog 255 #[v,vc] w λe w'=>∃v',e=.returned v'/\aq nS (rS ((pU l cs).map (·.f))) v' w'/\K w w':=by
 have HR:Hid (rS ((pU l cs).map (·.f))=rS ((l.filter λs=>decide (s.cl∈cs)).map (·.f))):=ae rfl
 have HL:=ae (IA h)
 have HS:=ae E
 have HC:=ae F
 obtain⟨A,d,rfl⟩:=aw h
 obtain⟨Ac,cc,rfl⟩:=aw F
 have hb:=ah.new w 23 #[.slice Ac cs.length cc]
 have D:=hb.aS
 generalize rS ((pU l cs).map (·.f))=R at *
 clear h F E
 go_enter func255,ntmps255
 go_upto_region 1 with (fail)
 generalize w.alloc _=w1 at *
 have hz1:=D.size
 generalize kp:w.heap.size=lo at hb HL hz1⊢
 have C1:=ae (E6 (λk=>lo<=k) l _ (λs=>decide (s.cl∈cs)) 293 #[.pointer (some ⟨lo,0,none⟩)] w1 (HL.aa.st D) af (λ_ _=>fk) λW k s _ u hu=>aqO s cs u _ lo W hu (hb.av k) (bo HC.aa (D.tr k)) hcl)
 clear kp
 go_wp2_with fail
 refine C1.aa.mono ?_
 rintro e B⟨v2,rfl,C,k2⟩
 have cL:=ll (λs=>decide (s.cl∈cs)) l
 have AO:=zt (q:=λs=>decide (s.cl∈cs)) HS.aa
 generalize l.filter (λs=>decide (s.cl∈cs))=t at *
 have bC:=D.tr k2
 have Rb:=C.blk
 obtain⟨J,c2,rfl⟩:=C.slice
 have H2:=ae (C.GM (N:=λk=>lo<=k/\(Value.slice J t.length c2).ownBlock≠some k) (λk hk=>.inl hk.1) λk X h2=>h2.2 X)
 have JN:=ae AO
 have js:=aA.nil (λk=>lo<=k/\(Value.slice J t.length c2).ownBlock≠some k) B.heap.size 53 nS B
 have kk:=K.rf B
 clear C1 C hb AO
 go_wp2_with fail
 go_loopw [6,8,14] (fun vo _ i W=>∃j:Nat,j<=t.length/\i=.int .i64 (j:Int)/\aA (fun k=>lo<=k/\(Value.slice J t.length c2).ownBlock≠some k) B.heap.size 53 nS ((t.take j).map (·.f)) vo W/\K B W) (fun _ _ i _=>t.length-(intOf i).toNat)
 case atStart=>exact⟨0,af,rfl,by simpa using js,kk⟩
 case round =>
  clear js kk;obtain⟨j,hj,rfl,y,kr⟩:=hrel;by_cases hlt:j<t.length
  ·have aP:(j:Int)<(t.length:Int):=af;obtain⟨b,T,c',cs1,L,sQ,eJ,G,d⟩:=H2.aa.at j hlt ay;injection L with L _ e2;subst L e2;have HT:Hid ((t.take (j+1)).map (·.f)=(t.take j).map (·.f)++[t[j].f]):=ae VT;generalize t[j]=x at *;obtain⟨vf,rfl,GC⟩:=G.now;have q9:∀i,i<3->wr.cell? ⟨b,T+j*3+i,none⟩=(mz x vf)[i]?:=λi hi=>(d wr (ag.aT kr _) i hi).trans Array.getElem?_toList
   have q0:wr.cell? ⟨b,T+j*3,none⟩=some (.int .i64 x.cl):=by first|exact q9 0 (by decide)|simp
   have Z:Fx (λk=>lo<=k/\(Value.slice (some ⟨b,T,none⟩) t.length c2).ownBlock≠some k) (λW=>nS.rel x.f [vf] W) B:=λW u=>by obtain⟨jN,e,h⟩:=G W u;simp at e;subst e;exact⟨_,rfl,h⟩
   obtain⟨Q,I,rfl⟩:=b6 GC;have V:=ah.new wr 246 (mz x (.slice Q x.f.length I));have k3:=V.aS;obtain⟨Ao,co,rfl⟩:=y.slice;have tR:((t.take j).map (·.f)).length<=500000:=aY;clear d G GC eJ;go_upto_region 6 with (fail);have O:=y.st k3;have cH:=kr.tr k3;generalize wr.alloc _=w3 at *;clear q9 q0 y;have q8:=V.cell;generalize (t.take j).map (·.f)=o at *;have bR:=O.blk;have U:=ew.new (S:=nS) (e:=53) (v:=.slice Q x.f.length I) (Z.k cH) 0 (eV _);have kA:=K.new w3 (.cells #[.slice Q x.f.length I] 53);have cB:=O.st kA;have Y:=cH.tr kA;have ir:=Y.size;clear O Z;go_wp2_with (at_builtin;refine jt rfl _ _ 206 rfl _ 1 24 TFl rfl rfl cB _ rfl x.f ?p1 ?p2 ?p3 ?_)
   case p1 =>
    exact U.less λk hk=>by
     rcases hk with hk|hk
     ·exact hk
     ·have X:=bR k hk;have h2:=k2.size;exact⟨af,λe=>by have:=(Rb k e).2;omega⟩
   case p2=>omega
   case p3=>simpa using ir
   intro v9 w9 bq bB cQ aZ;have ui:=Y.trans aZ;clear U cB bB cQ aZ bR;go_wp2;go_roundw
   case rel=>exact⟨j+1,af,bJ,by rw[HT.aa];exact bq,ui⟩
   case measure=>simp[intOf];omega
  ·have aP:¬(j:Int)<(t.length:Int):=af;have hE:(t.take j).map (·.f)=t.map (·.f):=by rw[fM (by omega)]
   rw[hE]at y;have M:=ae (apJ (t.map (·.f)) _ wr y.aq aY (λf hf=>by obtain⟨s,E,rfl⟩:=List.mem_map.1 hf;exact JN.aa s E));obtain⟨Ao,co,rfl⟩:=y.slice;rw[<- HR.aa]at M;have oN:=bC.tr kr;clear hE y;generalize t.map (·.f)=o at *;go_wp2_with fail
   refine M.aa.mono ?_;rintro e w5⟨v5,rfl,H,k5⟩;have kF:=oN.tr k5;have Ci:=ae H.aq;obtain⟨A5,c5,rfl⟩:=H.slice;clear M H;go_wp2;go_ret;exact⟨_,rfl,Ci.aa,kF⟩
