/-
  The walks of norm.Implies and its parts (layer 7). Conditions: none.
-/
import Derived.Test.YtcjlnlcpodcldaaGreatMs03
import Derived.Test.YtcjlnlcpodcldaaGreatMsz
set_option maxRecDepth 100000
set_option maxHeartbeats 16000000
set_option linter.all false
namespace Go.Proofs.YtcjlnlcpodcldaaGreat
open Go Go.RowKit _root_.Go.Proofs.Tryz
open List renaming length→Z
open _root_.Array renaming size→D
open Go.World renaming heap→L,alloc→aU,setCell→aV
open Go.Value renaming ownBlock→aW
open Go.Value renaming int→G,slice→F,pointer→aj,bool→ar,tuple→au,agg→av,string→aw
open Go.IntKind renaming i64→J,u64→E
open Option renaming none→U,some→I
open Go.Ending renaming returned→ak
open Go.Obj renaming cells→aq
open Go.World renaming setCell→ax,alloc→ay
open Bool renaming false→az,true→aA
open And renaming intro→aB
open List renaming lookup→aC,getElem?_eq_getElem→aE,getElem?_eq_some_iff→aF
open _root_.Array renaming getElem?_toList→aD,getElem?_eq_some_iff→aG
open Nat renaming le_succ→aH
open Or renaming inl→aI,inr→aJ
open Go renaming Calls→aK,execOp→aL,bodyPost_ret→aM,World→aP,Value→aQ
open Go.RowKit renaming Below→aN,intOf→aO
open _root_.Go.Proofs.Tryz renaming prog→aR
abbrev wT(a b:fo)(z:Int):Array aQ:=#[aw a.1,G J a.2.1,G J a.2.2.1,G J a.2.2.2.1,aw a.2.2.2.2,aw b.1,G J b.2.1,G J b.2.2.1,G J b.2.2.2.1,aw b.2.2.2.2,G J z]
def Gh(op:Int):Nat:=if op=1 then 365 else if op=3 then 366 else if op=4 then 367 else if op=5 then 368 else if op=6 then 369 else if op=7 then 370 else 371
theorem avh op w:aK aR 359 #[G J op] w λe t=>e=ak (.func (.func (Gh op)) #[] #[])/\K w t:=by
 by_cases h1:op=1;subst h1;exact Lc;by_cases h3:op=3;subst h3;exact Lc;by_cases h4:op=4;subst h4;exact Lc;by_cases h5:op=5;subst h5;exact Lc;by_cases h6:op=6;subst h6;exact Lc;by_cases j:op=7;subst j;exact Lc;have:(op==1)=false:=E4;have:(op==3)=false:=K1;have:(op==4)=false:=IM;have:(op==5)=false:=Ob;have:(op==6)=false:=Th;have:(op==7)=false:=by simpa using j
 have HP:Hid (Gh op=371):=aY (by simp[Gh,h1,h3,h4,h5,h6,j]);generalize Gh op=H at *;go_in;go_wp2;go_ret;exact⟨Z5,K.rf w⟩
theorem afM op w:aK aR 358 #[G J op] w λe j=>e=ak (ar (Gg op))/\K w j:=by
 have HR:Hid (Gg op=(decide (1<=op)&&decide (op<=8))):=aY rfl;generalize Gg op=R at *;by_cases h1:1<=op
 .have HR:Hid (R=decide (op<=8)):=aY al2;go_in;go_wp2;go_ret;exact⟨jB,K.rf w⟩
 have HR:Hid (R=az):=aY al2;go_in;go_wp2;go_ret;exact⟨jB,K.rf w⟩
theorem aua a b z w:aK aR 371 #[av (wT a b z)] w λe j=>e=ak (ar az)/\K w j:=by have k1:=K.new w (aq (wT a b z) 408);go_in;go_wp2;go_ret;simp_all
theorem avi a b z w:aK aR 365 #[av (wT a b z)] w λe j=>e=ak (ar (lq b a.2.2))/\K w j:=by
 have k1:=K.new w (aq (wT a b z) 408);have t:=aY λW=>ahT b a.2.2 W
 generalize lq b a.2.2=R at *;go_in;go_wp2_with fail
 apply eu (t.aX _) k1;exact Z6
theorem avj a b z w:aK aR 366 #[av (wT a b z)] w λe t=>e=ak (ar (decide ((b.2.1=3\/b.2.1=4\/b.2.1=2)/\z<=0)))/\K w t:=by
 have k1:=K.new w (aq (wT a b z) 408);obtain⟨y,j,kb,A,C⟩:=b;have HR:Hid ((decide ((j=3\/j=4\/j=2)/\z<=0))=(decide ((j=3\/j=4\/j=2)/\z<=0))):=aY rfl;show aK _ _ _ _ λe t=>e=ak (ar (decide ((j=3\/j=4\/j=2)/\z<=0)))/\_
 clear HR;by_cases h3:j=3
 .have HR:Hid ((decide ((j=3\/j=4\/j=2)/\z<=0))=decide (z<=0)):=aY (by subst h3;simp);generalize (decide ((j=3\/j=4\/j=2)/\z<=0))=R at *;subst h3;go_in;exact pI
 by_cases h4:j=4
 .have HR:Hid ((decide ((j=3\/j=4\/j=2)/\z<=0))=decide (z<=0)):=aY (by subst h4;simp);generalize (decide ((j=3\/j=4\/j=2)/\z<=0))=R at *;subst h4;go_in;exact pI
 by_cases h2:j=2
 .have HR:Hid ((decide ((j=3\/j=4\/j=2)/\z<=0))=decide (z<=0)):=aY OA;generalize (decide ((j=3\/j=4\/j=2)/\z<=0))=R at *;subst h2;go_in;exact pI
 have HR:Hid ((decide ((j=3\/j=4\/j=2)/\z<=0))=az):=aY (by simp[h3,h4,h2]);generalize (decide ((j=3\/j=4\/j=2)/\z<=0))=R at *;have:(j==3)=false:=K1;have:(j==4)=false:=IM;have:(j==2)=false:=BR;clear h3 h4 h2;go_in;exact pI
theorem atj a b z w:aK aR 367 #[av (wT a b z)] w λe t=>e=ak (ar (if b.2.1=4 then decide (z<=0)else decide ((b.2.1=3\/b.2.1=2)/\z<0)))/\K w t:=by
 have k1:=K.new w (aq (wT a b z) 408);obtain⟨y,j,kb,A,C⟩:=b;have HR:Hid ((if j=4 then decide (z<=0)else decide ((j=3\/j=2)/\z<0))=(if j=4 then decide (z<=0)else decide ((j=3\/j=2)/\z<0))):=aY rfl;show aK _ _ _ _ λe t=>e=ak (ar (if j=4 then decide (z<=0)else decide ((j=3\/j=2)/\z<0)))/\_
 clear HR;by_cases h4:j=4
 .have HR:Hid ((if j=4 then decide (z<=0)else decide ((j=3\/j=2)/\z<0))=decide (z<=0)):=aY (by subst h4;simp);generalize (if j=4 then decide (z<=0)else decide ((j=3\/j=2)/\z<0))=R at *;subst h4;go_in;exact pI
 by_cases h3:j=3
 .have HR:Hid ((if j=4 then decide (z<=0)else decide ((j=3\/j=2)/\z<0))=decide (z<0)):=aY (by subst h3;simp);generalize (if j=4 then decide (z<=0)else decide ((j=3\/j=2)/\z<0))=R at *;subst h3;go_in;exact pI
 by_cases h2:j=2
 .have HR:Hid ((if j=4 then decide (z<=0)else decide ((j=3\/j=2)/\z<0))=decide (z<0)):=aY OA;generalize (if j=4 then decide (z<=0)else decide ((j=3\/j=2)/\z<0))=R at *;subst h2;go_in;exact pI
 have HR:Hid ((if j=4 then decide (z<=0)else decide ((j=3\/j=2)/\z<0))=az):=aY (by simp[h4,h3,h2]);generalize (if j=4 then decide (z<=0)else decide ((j=3\/j=2)/\z<0))=R at *;have:(j==4)=false:=IM;have:(j==3)=false:=K1;have:(j==2)=false:=BR;clear h4 h3 h2;go_in;exact pI
theorem avk a b z w:aK aR 368 #[av (wT a b z)] w λe t=>e=ak (ar (decide ((b.2.1=5\/b.2.1=6\/b.2.1=2)/\0<=z)))/\K w t:=by
 have k1:=K.new w (aq (wT a b z) 408);obtain⟨M,j,kb,A,C⟩:=b;have HR:Hid ((decide ((j=5\/j=6\/j=2)/\0<=z))=(decide ((j=5\/j=6\/j=2)/\0<=z))):=aY rfl;show aK _ _ _ _ λe t=>e=ak (ar (decide ((j=5\/j=6\/j=2)/\0<=z)))/\_
 clear HR;by_cases h5:j=5
 .have HR:Hid ((decide ((j=5\/j=6\/j=2)/\0<=z))=decide (0<=z)):=aY Z7;generalize (decide ((j=5\/j=6\/j=2)/\0<=z))=R at *;subst h5;go_in;exact pI
 by_cases h6:j=6
 .have HR:Hid ((decide ((j=5\/j=6\/j=2)/\0<=z))=decide (0<=z)):=aY aaa;generalize (decide ((j=5\/j=6\/j=2)/\0<=z))=R at *;subst h6;go_in;exact pI
 by_cases h2:j=2
 .have HR:Hid ((decide ((j=5\/j=6\/j=2)/\0<=z))=decide (0<=z)):=aY OA;generalize (decide ((j=5\/j=6\/j=2)/\0<=z))=R at *;subst h2;go_in;exact pI
 have HR:Hid ((decide ((j=5\/j=6\/j=2)/\0<=z))=az):=aY (by simp[h5,h6,h2]);generalize (decide ((j=5\/j=6\/j=2)/\0<=z))=R at *;have:(j==5)=false:=Ob;have:(j==6)=false:=Th;have:(j==2)=false:=BR;clear h5 h6 h2;go_in;exact pI
theorem asN a b z w:aK aR 369 #[av (wT a b z)] w λe t=>e=ak (ar (if b.2.1=6 then decide (0<=z)else decide ((b.2.1=5\/b.2.1=2)/\0<z)))/\K w t:=by
 have k1:=K.new w (aq (wT a b z) 408);obtain⟨M,j,kb,A,C⟩:=b;have HR:Hid ((if j=6 then decide (0<=z)else decide ((j=5\/j=2)/\0<z))=(if j=6 then decide (0<=z)else decide ((j=5\/j=2)/\0<z))):=aY rfl;show aK _ _ _ _ λe t=>e=ak (ar (if j=6 then decide (0<=z)else decide ((j=5\/j=2)/\0<z)))/\_
 clear HR;by_cases h6:j=6
 .have HR:Hid ((if j=6 then decide (0<=z)else decide ((j=5\/j=2)/\0<z))=decide (0<=z)):=aY aaa;generalize (if j=6 then decide (0<=z)else decide ((j=5\/j=2)/\0<z))=R at *;subst h6;go_in;exact pI
 by_cases h5:j=5
 .have HR:Hid ((if j=6 then decide (0<=z)else decide ((j=5\/j=2)/\0<z))=decide (0<z)):=aY Z7;generalize (if j=6 then decide (0<=z)else decide ((j=5\/j=2)/\0<z))=R at *;subst h5;go_in;exact pI
 by_cases h2:j=2
 .have HR:Hid ((if j=6 then decide (0<=z)else decide ((j=5\/j=2)/\0<z))=decide (0<z)):=aY OA;generalize (if j=6 then decide (0<=z)else decide ((j=5\/j=2)/\0<z))=R at *;subst h2;go_in;exact pI
 have HR:Hid ((if j=6 then decide (0<=z)else decide ((j=5\/j=2)/\0<z))=az):=aY (by simp[h6,h5,h2]);generalize (if j=6 then decide (0<=z)else decide ((j=5\/j=2)/\0<z))=R at *;have:(j==6)=false:=Th;have:(j==5)=false:=Ob;have:(j==2)=false:=BR;clear h6 h5 h2;go_in;exact pI
theorem atk a b z w:aK aR 370 #[av (wT a b z)] w λe H=>e=ak (ar (if b.2.1=7 then my a.2.2 b.2.2 else if b.2.1=6 then decide (0<=z)else if b.2.1=5 then decide (0<z)else if b.2.1=2 then !my b.2.2 a.2.2 else az))/\K w H:=by
 have k1:=K.new w (aq (wT a b z) 408);have N:=aY λW=>WQ a.2.2 b.2.2 W
 have M:=aY λW=>WQ b.2.2 a.2.2 W
 obtain⟨V,j,kb,A,C⟩:=b;show aK _ _ _ _ λe H=>e=ak (ar (if j=7 then my a.2.2 (kb,A,C)else if j=6 then decide (0<=z)else if j=5 then decide (0<z)else if j=2 then !my (kb,A,C) a.2.2 else az))/\_
 simp only at N M;generalize my a.2.2 (kb,A,C)=y at *;generalize my (kb,A,C) a.2.2=t at *;by_cases B:j=7
 .have HR:Hid ((if j=7 then y else if j=6 then decide (0<=z)else if j=5 then decide (0<z)else if j=2 then !t else az)=(y)):=aY (by subst B;simp);generalize (if j=7 then y else if j=6 then decide (0<=z)else if j=5 then decide (0<z)else if j=2 then !t else az)=R at *;subst B;go_in;go_wp2_with fail
  apply eu (N.aX _) k1;exact al3
 by_cases h6:j=6
 .have HR:Hid ((if j=7 then y else if j=6 then decide (0<=z)else if j=5 then decide (0<z)else if j=2 then !t else az)=(decide (0<=z))):=aY aaa;generalize (if j=7 then y else if j=6 then decide (0<=z)else if j=5 then decide (0<z)else if j=2 then !t else az)=R at *;subst h6;go_in;exact pI
 by_cases h5:j=5
 .have HR:Hid ((if j=7 then y else if j=6 then decide (0<=z)else if j=5 then decide (0<z)else if j=2 then !t else az)=(decide (0<z))):=aY Z7;generalize (if j=7 then y else if j=6 then decide (0<=z)else if j=5 then decide (0<z)else if j=2 then !t else az)=R at *;subst h5;go_in;exact pI
 by_cases h2:j=2
 .have HR:Hid ((if j=7 then y else if j=6 then decide (0<=z)else if j=5 then decide (0<z)else if j=2 then !t else az)=(!t)):=aY OA;generalize (if j=7 then y else if j=6 then decide (0<=z)else if j=5 then decide (0<z)else if j=2 then !t else az)=R at *;subst h2;go_in;go_wp2_with fail
  apply eu (M.aX _) k1;exact al3
 have HR:Hid ((if j=7 then y else if j=6 then decide (0<=z)else if j=5 then decide (0<z)else if j=2 then !t else az)=az):=aY (by simp[B,h6,h5,h2]);generalize (if j=7 then y else if j=6 then decide (0<=z)else if j=5 then decide (0<z)else if j=2 then !t else az)=R at *;have:(j==7)=false:=by simpa using B
 have:(j==6)=false:=Th;have:(j==5)=false:=Ob;have:(j==2)=false:=BR;go_in;exact pI
theorem awO a b w:aK aR (Gh a.2.1) #[av (wT a b (iQ a.2.2 b.2.2))] w λe j=>e=ak (ar (G6 a b))/\K w j:=by unfold Gh G6;split;exact avi a b _ w;split;exact avj a b _ w;split;exact atj a b _ w;split;exact avk a b _ w;split;exact asN a b _ w;split;exact atk a b _ w;exact aua a b _ w
theorem ayE op:∀j W,(callFunc (Gh op) j).run aR W=.ok (.enter (Gh op) j) W:=by
 intro j W
 unfold Gh
 repeat' split
 all_goals rfl
theorem avl x y w d:(Op.equalIn (d+1+1+1) 85 (ua x) (ua y)).run aR w=.ok (decide (x=y)) w:=by obtain⟨a,b,c,A,e⟩:=x;obtain⟨t,B,z,j,C⟩:=y;simp[go_sem,Np];grind
theorem aub x y w:(binOp .eql 85 (ua x) (ua y)).run aR w=.ok (ar (decide (x=y))) w:=by have h:(Op.equal 85 (ua x) (ua y)).run aR w=.ok (decide (x=y)) w:=avl x y w 9997;exact alm
theorem agm{ops rest o a w Q}(j:o.guard=U) x y(t:o.op=.binOp .eql 85 x y 85) p q(H:a.eval x=ua p)(A:a.eval y=ua q)(h:wpList aR ops Q rest (a.put o.dst (ar (decide (p=q)))) w):wpList aR ops Q (o :: rest) a w:=by
 refine wpList_plain j λK B=>?_
 have z:=aub p q w;have C:(eqGuard BinOp.eql 85 x y (ua p) (ua q)).run aR w=.ok () w:=by simp[eqGuard,go_sem]
 unfold Oper.wp aL;simp only[t,Sem.run_bind,Result.andThen_ok,H,A,C,z,Sem.run_pure];exact B _ _ h
theorem atl a b w:aK aR 346 #[ua a,ua b] w λe w'=>e=ak (ar (tu a b))/\K w w':=by
 have B:Hid (tu a b=if a.1≠b.1\/Gg a.2.1=az\/Gg b.2.1=az then az else if a=b\/b.2.1=8 then aA else if a.2.1=8\/a.2.2.1≠b.2.2.1 then az else G6 a b):=aY rfl;have C1:=aY λW=>awO a b W
 have C2:=aY λW=>afD a.2.2 b.2.2 W
 generalize tu a b=R at *;have k1:=K.ou w (aq (je a).toArray 85) (aq (je b).toArray 85);have hb:=(bn.new w 85 (je a).toArray).alloc (aq (je b).toArray 85);have hc:=bn.new (aU w (aq (je a).toArray 85)) 85 (je b).toArray;have hz:D (L (aU w (aq (je a).toArray 85)))=D (L w)+1:=bu;rw[hz]at hc;clear hz;go_in;go_upto_region 1 with fail;generalize ay (ay w _) _=T at *;have t:=hb.cells;have j:=hc.cells;generalize D (L w)=Y at *;clear hb hc;by_cases A:a.1=b.1;rotate_left
 .have HF:Hid (R=az):=aY (by rw[B.aX,bV (aI A)]);have hs:(a.1.toList==b.1.toList)=false:=by rw[Sr];simpa using A
  have Qz:=t T (K.rf _);have wM:=j T (K.rf _);clear t j A;go_wp2;go_ret;exact⟨I0,k1⟩
 have hs:(a.1.toList==b.1.toList)=true:=bL;have Qz:=t T (K.rf _);have wM:=j T (K.rf _);have CK1:=aY (afM a.2.1 T);go_wp2_with fail
 apply bW CK1.aX;intro w2 k2;clear CK1 Qz wM;cases iN:Gg a.2.1
 .have HF:Hid (R=az):=aY (by rw[B.aX,bV (aJ (aI iN))]);have kF:=k1.tr k2;clear t j A B;go_wp2;exact DJ
 have CK2:=aY (afM b.2.1 w2);go_wp2_with fail
 apply eu CK2.aX k2;intro X k3 y;clear CK2 k2 k3;cases hk2:Gg b.2.1
 .have HF:Hid (R=az):=aY (by rw[B.aX,bV (aJ (aJ hk2))]);have kF:=k1.tr y;clear t j A B iN;go_wp2;exact DJ
 have N:Hid (R=if a=b\/b.2.1=8 then aA else if a.2.1=8\/a.2.2.1≠b.2.2.1 then az else G6 a b):=aY (by rw[B.aX,bQ];simp[A,iN,hk2]);clear B iN hk2 A hs;go_upto_region 3 with fail;have C:∀W,K X W->∀i,W.cell? ⟨Y,i,U⟩=(je a).toArray[i]?:=λW k=>t W (y.tr k)
 have z:∀W,K X W->∀i,W.cell? ⟨Y+1,i,U⟩=(je b).toArray[i]?:=λW k=>j W (y.tr k)
 have qa5:=C X (K.rf _);have qb5:=z X (K.rf _);by_cases M:a=b;have HF:Hid (R=aA):=aY (by rw[N.aX,bV (aI M)]);have hd:decide (a=b)=true:=by simp[M]
 have kF:=k1.tr y;clear N M t j C z;exact Ti;have hd:decide (a=b)=false:=by simp[M]
 by_cases S:b.2.1=8;have HF:Hid (R=aA):=aY (by rw[N.aX,bV (aJ S)]);have Bg:(b.2.1==8)=true:=by simp[S]
 have kF:=k1.tr y;clear N M S t j C z;exact Ti;have Bg:(b.2.1==8)=false:=by simp[S]
 have Q:Hid (R=if a.2.1=8\/a.2.2.1≠b.2.2.1 then az else G6 a b):=aY (by rw[N.aX,bQ];simp[M,S]);clear N M S;by_cases H:a.2.1=8;have HF:Hid (R=az):=aY (by rw[Q.aX,bV (aI H)]);have g9:(a.2.1==8)=true:=by simp[H]
 have kF:=k1.tr y;clear Q H t j C z;exact Ti;have g9:(a.2.1==8)=false:=by simp[H]
 by_cases O:a.2.2.1=b.2.2.1;rotate_left;have HF:Hid (R=az):=aY (by rw[Q.aX,bV (aJ O)]);have g8:(a.2.2.1 != b.2.2.1)=true:=by simpa using O
 have kF:=k1.tr y;clear Q H O t j C z;exact Ti;have g8:(a.2.2.1 != b.2.2.1)=false:=by simpa using O
 have HF:Hid (R=G6 a b):=aY (by rw[Q.aX,bQ];simp[H,O]);clear Q H O;have CA:=aY (avh a.2.1 X);go_wp2_with (first|with_reducible refine agm rfl (.tmp 23) (.tmp 24) rfl a b rfl rfl ?_|fail)
 apply bW CA.aX;intro w4 k4;clear CA qa5 qb5 hd Bg g9 g8;have Br:=k1.tr (y.tr k4);go_upto_region 8 with fail;have qa6:∀W,K w4 W->∀i,W.cell? ⟨Y,i,U⟩=(je a).toArray[i]?:=λW k=>C W (k4.tr k)
 have qb6:∀W,K w4 W->∀i,W.cell? ⟨Y+1,i,U⟩=(je b).toArray[i]?:=λW k=>z W (k4.tr k)
 clear t j C z;have qs:=aB qa6 qb6;refine fD 9 ?_;iterate 7 refine bB.i ?_
 refine bB.is (G J (iQ a.2.2 b.2.2)) (λV W kW hp=>?_) ?_
 ·(try simp only[dN,bZ,cC,dK,dL,bS]at hp)
  simp[dI,bR,aC,hp,fk,aL,bT,bS,qa6,qb6,go_sem];apply bW (C2.aX W);intro w4 k4;grind
 refine bB.i ?_;clear qs;intro V W kW hA;simp only[bZ,cC,dF,bS,Nat.reduceAdd]at hA;obtain⟨e0,e1,e2,e3,e4,e5,e6,e7,e8,-⟩:=hA;have LX:=Br.tr kW;refine bN.call _ _ rfl aBW ?_;apply bW (C1.aX W);intro w9 k9;refine⟨_,rfl,?_⟩;have kF:=LX.tr k9;apply bN.pure;rfl;simp[bR,aC,cP,aL,bT,go_sem];rfl;refine bN.nil ?_;simp only[iO,Act.put,xm,vU,vT,Nat.reduceAdd,cP,Nat.reduceEqDiff,reduceIte];clear C1 C2 qa6 qb6 e0 e1 e2 e3 e4 e5 e6 e7 e8 kW;go_wp2;exact DJ
def rh:fy (List fo) where
 size:=1
 rel l cs w:=∃v,cs=[v]/\fZ l v w
 len:=by rintro _ _ _⟨v,rfl,_⟩;rfl
 one:=by rintro _ _ _⟨v,rfl,A,c,rfl,_⟩ u j;simp at j;subst j;rfl
 st:=by rintro _ _ _ _⟨v,rfl,h⟩ k;exact⟨v,rfl,fO _ _ _ _ h k⟩
theorem aDa:(prog.info? 37).map (λi=>(i.zero,i.size,i.bytes))=I (I (F U 0 0),1,24):=by rfl
theorem TFl:gQ aR 352 37 (F U 0 0) 1 24:=⟨underlying352,aDa,rfl,bG⟩
theorem avm l v q(f:Nat) cs w(h:fZ l v w)(hlen:Z l<=1000000)(hf:∀args W,(callFunc f args).run aR W=.ok (.enter f args) W)(C:∀W,K w W->∀x∈l,aK aR f (#[ua x]++cs) W λe W'=>e=ak (ar (q x))/\K W W') :aK aR 344 #[v,.func (.func f) #[] cs] w λe H=>e=ak (ar (l.any q))/\K w H:=by
 have N:=K.rf w;obtain⟨A,c,rfl,X⟩:=h;have O:=aY X;have S:=aY C;go_in;go_wp2_with fail
 go_loopw [6,9] (fun _ i wr=>∃k:Nat,k<=Z l/\i=G J k/\Hid ((l.take k).any q=az)/\K w wr) (fun _ i _=>Z l-(aO i).toNat)
 case atStart=>exact⟨0,aZ,rfl,aY bu,N⟩
 case round =>
  obtain⟨k,hk,rfl,hall,kr⟩:=hrel;by_cases y:k<Z l
  .have gW:(k:Int)<Z l:=aZ;obtain⟨b,t,rfl,j,Q⟩:=O.aX.Lq aZ;obtain⟨B,T,R,V,Y⟩:=Q k y;have d0:=(kr.cell (p:=⟨b,t+k*5,U⟩) j).trans B;have d1:=(kr.cell (p:=⟨b,t+k*5+1,U⟩) j).trans T;have d2:=(kr.cell (p:=⟨b,t+k*5+2,U⟩) j).trans R;have d3:=(kr.cell (p:=⟨b,t+k*5+3,U⟩) j).trans V;have d4:=(kr.cell (p:=⟨b,t+k*5+4,U⟩) j).trans Y;have HB:=aY (BI q l k y);have MO:=aY (BJ q l (k+1));have hm:=dJ y;generalize l[k]=x at *;have hx:=bn.new wr 85 (je x).toArray;have z:=hx.cG;have CX:=aY (S.aX _ (kr.tr z) x hm);go_upto_region 4 with fail;have M:=kr.tr z;generalize wr.alloc _=w3 at *;have q8:=hx.cell;go_wp2_with fail
   apply eu CX.aX M;exact al4
  exact al5
theorem awP t u g w(hg:bn w g 85 (je t).toArray) :aK aR 345 #[ua u,aj (I ⟨g,0,U⟩)] w λe z=>e=ak (ar (tu u t))/\K w z:=by
 have j:=bn.new w 85 (je u).toArray;have k1:=j.cG;have B:=hg.bM k1;have A:=aY λW=>atl u t W
 generalize tu u t=R at *;go_in;go_upto_region 1 with fail;generalize w.alloc _=y at *;have q:=j.cell;have:=B.cell;go_wp2_with fail
 apply eu (A.aX y) k1;exact Z6
theorem afg f g v u w(hv:fZ f v w)(M:fZ g u w)(H:Z f<=1000000)(hg:Z g<=1000000) :aK aR 335 #[v,u] w λe S=>e=ak (ar (rE f g))/\K w S:=by
 have C:Hid (rE f g=f.all λt=>g.any λu=>tu u t):=aY rfl;generalize rE f g=R at *;have Y:=K.rf w;obtain⟨A,c,rfl,hR⟩:=hv;have HA:=aY hR;have CS:=aY λW (k:K w W) q f cs H T=>avm g u q f cs W (fO _ _ _ _ M k) hg H T
 obtain⟨aS,d,rfl,-⟩:=M;go_in;go_wp2_with fail
 go_loopw [6,9] (fun _ i wr=>∃k:Nat,k<=Z f/\i=G J k/\Hid ((f.take k).all (fun t=>g.any fun u=>tu u t)=aA)/\K w wr) (fun _ i _=>Z f-(aO i).toNat)
 case atStart=>exact⟨0,aZ,rfl,aY bu,Y⟩
 case round =>
  obtain⟨k,hk,rfl,hall,kr⟩:=hrel;by_cases z:k<Z f
  .have O:(k:Int)<Z f:=aZ;obtain⟨b,y,rfl,j,hcell⟩:=HA.aX.Lq aZ;obtain⟨Q,e1,e2,e3,e4⟩:=hcell k z;have d0:=(kr.cell (p:=⟨b,y+k*5,U⟩) j).trans Q;have d1:=(kr.cell (p:=⟨b,y+k*5+1,U⟩) j).trans e1;have d2:=(kr.cell (p:=⟨b,y+k*5+2,U⟩) j).trans e2;have d3:=(kr.cell (p:=⟨b,y+k*5+3,U⟩) j).trans e3;have d4:=(kr.cell (p:=⟨b,y+k*5+4,U⟩) j).trans e4;have HB:=aY (Ky (λt=>g.any λu=>tu u t) f k z);have X:=aY (λ(h:(g.any λu=>tu u f[k])=az)=>show (f.all λt=>g.any λu=>tu u t)=az by
    rw[List.all_eq_false];exact⟨f[k],dJ z,by rw[h];simp⟩)
   generalize f[k]=x at *;have hx:=bn.new wr 85 (je x).toArray;have k3:=hx.cG;go_upto_region 4 with fail;have B:=kr.tr k3;generalize wr.alloc _=V at *;generalize D (L wr)=N at hx|-;have CX:=aY (CS.aX V B (λu=>tu u x) 345 #[aj (I ⟨N,0,U⟩)] (λ_ _=>dH) λW k u _=>awP x u N W (hx.bM k));go_wp2_with fail
   apply eu CX.aX B;intro w2 k2 kW;cases hx:g.any λu=>tu u x
   have HE:Hid (R=az):=aY (by rw[C.aX,X.aX hx]);exact Zt;have rN:Hid ((f.take (k+1)).all (λt=>g.any λu=>tu u t)=aA):=aY Tj;exact K4
  have O:¬(k:Int)<Z f:=aZ;have HE:Hid (R=aA):=aY (by
   have:=hall.aX;rw[jq aZ]at this;rw[C.aX];exact this)
  exact Oj
theorem avn l v q(f:Nat) cs w(h:bD rh l v w)(Y:Z l<=1000000)(hf:∀args W,(callFunc f args).run aR W=.ok (.enter f args) W)(z:∀W,K w W->∀x∈l,∀u,fZ x u W->aK aR f (#[u]++cs) W λe W'=>e=ak (ar (q x))/\K W W') :aK aR 311 #[v,.func (.func f) #[] cs] w λe B=>e=ak (ar (l.any q))/\K w B:=by
 have C:=K.rf w;obtain⟨A,c,rfl,Q,-⟩:=h;have M:=aY z;go_in;go_wp2_with fail
 go_loopw [6,9] (fun _ i wr=>∃k:Nat,k<=Z l/\i=G J k/\Hid ((l.take k).any q=az)/\K w wr) (fun _ i _=>Z l-(aO i).toNat)
 case atStart=>exact⟨0,aZ,rfl,aY bu,C⟩
 case round =>
  obtain⟨k,X,rfl,hall,kr⟩:=hrel;by_cases j:k<Z l
  .have gW:(k:Int)<Z l:=aZ;obtain⟨y,O,cs1,rfl,hcl,R,N,d⟩:=fE Q k j bG;have HB:=aY (BI q l k j);have MO:=aY (BJ q l (k+1));have hm:=dJ j;generalize l[k]=x at *;obtain⟨V,rfl,t⟩:=R wr kr;obtain⟨S,H,rfl⟩:=dX t;have d9:wr.cell? ⟨y,O+k,U⟩=I (F S (Z x) H):=by simpa [rh]using N wr kr
   have T:=aY (M.aX wr kr x hm _ t);go_wp2_with fail
   apply eu T.aX kr;exact al4
  exact al5
theorem awQ f e v ve g w(j:fZ f v w)(hg:bn w g 35 #[ve])(t:iI e ve w)(B:Z f<=1000000)(C:Z e<=1000000) :aK aR 312 #[v,aj (I ⟨g,0,U⟩)] w λr z=>r=ak (ar (oQ f e))/\K w z:=by
 have H:=aY (au1 j B t C);obtain⟨M,N,rfl⟩:=tN t;obtain⟨A,c,rfl⟩:=dX j;generalize oQ f e=R at *;have q:=hg.cell;go_in;go_wp2_with fail
 apply bW H.aX;intro O y;go_wp2;go_ret;exact⟨rfl,y⟩
theorem ayF l e v ve w(t:bD rh l v w)(y:iI e ve w)(X:Z l<=1000000)(M:∀f∈l,Z f<=1000000)(O:Z e<=1000000) :aK aR 287 #[v,ve] w λr H=>r=ak (ar (mA l e))/\K w H:=by have HR:Hid (mA l e=l.any λf=>oQ f e):=aY rfl;have Q:=aY y;have T:=aY t;have V:=aY M;obtain⟨C,N,rfl⟩:=tN y;obtain⟨A,c,rfl⟩:=bH t;have j:=bn.new w 35 #[F C (Z e) N];have k1:=j.cG;generalize mA l e=R at *;go_in;go_upto_region 1 with fail;generalize w.alloc _=z at *;generalize D (L w)=gb at j|-;have C1:=aY (avn l _ (λf=>oQ f e) 312 #[aj (I ⟨gb,0,U⟩)] z (cM T.aX k1) X (λ_ _=>dH) λW k f B u S=>awQ f e u _ gb W S (j.bM k) (mq _ _ _ _ Q.aX (k1.tr k)) (V.aX f B) O);exact Ow
theorem ayG{α S}{l:List α}{A c w}(h:bD S l (F A (Z l) c) w) r(N:r<=Z l):bD S (l.take r) (F A r c) w:=by obtain⟨H,M,e,⟨y,j,z⟩,R⟩:=h;injection e with e1 _ e3;subst e1 e3;have t:Z (l.take r)=r:=bL;refine⟨A,c,by rw[t],⟨y.take r,j.take r,?_⟩,aZ⟩;rw[t,Wy S.size y j.lens r];have:=j.D2;refine⟨GA,λO=>?_⟩;obtain⟨g,C,e,Q,T⟩:=z.2 bL;grind
theorem ahb{α S}{l:List α}{A A' c w}(h:bD S l (F A (Z l) c) w) k(hk:k<=Z l)(hA:k<Z l->A'=A.map (·.add (k*S.size))):bD S (l.drop k) (F A' (Z l-k) (c-k)) w:=by
 obtain⟨W,R,e,⟨B,t,M⟩,T⟩:=h;injection e with e1 _ e3;subst e1 e3;have z:Z (l.drop k)=Z l-k:=bu;refine⟨A',c-k,by rw[z],⟨B.drop k,t.drop k,?_⟩,aZ⟩;rw[z,Wz S.size B t.lens k];have y:=t.D2;refine⟨by rw[List.length_drop,y,Nat.sub_mul],λN=>?_⟩;rw[List.length_drop,y]at N;have C:k<Z l:=by grind
 obtain⟨g,H,rfl,O,V⟩:=M.2 aZ;refine⟨g,H+k*S.size,by rw[hA C];simp[Addr.add_lit],O,λj u Q=>?_⟩;grind
theorem aAH ab:∀(l:List bU) (o:List bY),Z o<=16->Z (l.foldl (rz ab) o)<=16:=by
 intro l;induction l with
 | nil=>intro o h;exact h
 | cons x l j => grind [rz]
theorem awR ab cR H va w(hb:bD dQ ab H w)(ha:bD cL cR va w)(hlb:Z ab<=1000000)(Qx:Z cR<=1000000) :aK aR 236 #[H,va] w λe T=>∃V,e=ak V/\bK (λk=>k<D (L w)) (D (L w)) 42 dQ (yw ab cR) V T/\K w T:=by
 have CB:=aY λW (k:K w W) a=>Iw ab a H W (cM hb k) hlb
 have HE:Hid (yw ab cR=cR.foldl (rz ab) []):=aY rfl;have Cs:=aY λj=>aAH ab (cR.take j) [] bu
 obtain⟨Ab,cb,rfl⟩:=bH hb;obtain⟨A,c,rfl,hl,-⟩:=ha;generalize yw ab cR=R at *;have kk:=K.rf w;have nV:=bK.nil (λk=>k<D (L w)) (D (L w)) 42 dQ w;go_in;go_wp2_with fail
 go_loopw [5,7,10] (fun o _ i W=>∃j:Nat,j<=Z cR/\i=G J j/\bK (fun k=>k<D (L w)) (D (L w)) 42 dQ ((cR.take j).foldl (rz ab) []) o W/\K w W) (fun _ _ i _=>Z cR-(aO i).toNat)
 case atStart=>exact⟨0,aZ,rfl,nV,kk⟩
 case round =>
  obtain⟨j,hj,rfl,B,kr⟩:=hrel;have:=Cs.aX j;by_cases O:j<Z cR
  .have cE:(j:Int)<Z cR:=aZ;obtain⟨Q,off,cs1,rfl,mR,hrl,d0,d⟩:=fE hl j O bG;have y:=aY (fold_succ (rz ab) cR [] j O);generalize cR[j]=x at *;generalize (cR.take j).foldl (rz ab) []=P at *;obtain⟨t,jJ⟩:∃t,Hid (t=(cR.take (j+1)).foldl (rz ab) []):=⟨_,aY rfl⟩;replace y:Hid (t=rz ab P x):=aY (jJ.aX.trans y.aX);obtain⟨vf,ve,rfl,hf,he⟩:=hrl w (K.rf w);have:∀i,i<8->wr.cell? ⟨Q,off+j*8+i,U⟩=(cB x vf ve)[i]?:=λi hi=>(d wr kr i hi).trans aD
   have:wr.cell? ⟨Q,off+j*8,U⟩=I (G J x.bA):=d0 wr kr;have M:=bn.new wr 128 (cB x vf ve);have X:=M.cG;obtain⟨Af,cf,rfl⟩:=dX hf;obtain⟨Ae,ce,rfl⟩:=bH he;obtain⟨EK,Dm,rfl⟩:=B.slice;go_upto_region 5 with fail;have dS:=B.st X;have C:=kr.tr X;generalize wr.alloc _=w3 at *;by_cases lF:Z P<16;rotate_left
   .have Jo:¬(Z P:Int)<16:=aZ;have HP:Hid (t=P):=aY (by rw[y.aX];unfold rz;rw[bQ (by omega)]);go_wp2;go_roundw
    case rel=>exact⟨j+1,aZ,dh,by rw[<- jJ.aX,HP.aX];exact dS,C⟩
    case measure=>simp[aO];omega
   have Jo:(Z P:Int)<16:=aZ;have q8:=M.cell;have C3:=aY (CB.aX w3 C (bE x));go_wp2_with fail
   apply eu C3.aX C;intro w4 z iX;have fC:=dS.st z;have eF:=M.bM z;have q8:=eF.cell;cases hb0:fJ ab (bE x);have HP:Hid (t=P):=aY (by rw[y.aX];unfold rz;rw[bQ (by simp[hb0])]);exact Ox;have C4:=aY (Iw P (bE x) _ w4 fC.bD aZ);go_wp2_with fail
   apply eu C4.aX iX;intro Y z oJ;have gL:=fC.st z;have gJ:=eF.bM z;have q8:=gJ.cell;cases cK:fJ P (bE x);rotate_left;have HP:Hid (t=P):=aY (by rw[y.aX];unfold rz;rw[bQ (by simp[cK])]);exact alq;have HP:Hid (t=P++[bE x]):=aY (by rw[y.aX];unfold rz;rw[bV ⟨lF,hb0,cK⟩]);have hr:=fL.new (S:=dQ) (e:=42) (x:=bE x) (v:=av (eI (bE x))) (w:=Y) (N:=λk=>k<D (L w)\/aW (F EK (Z P) Dm)=I k) (λW u=>rfl) 0 (fw _);have kA:=K.new Y (aq (eI (bE x)) 42);have kH:=gL.st kA;have sQ:=oJ.tr kA;have sO:=sQ.size;go_wp2_with (at_builtin;refine j0 rfl _ _ 53 rfl _ 3 24 sK rfl rfl kH _ rfl (bE x) ?p1 ?p2 ?p3 ?_)
   case p1=>exact hr
   case p2=>omega
   case p3=>exact sO
   exact als
  have cE:¬(j:Int)<Z cR:=aZ;have HR:Hid (R=(cR.take j).foldl (rz ab) []):=aY ZR;generalize (cR.take j).foldl (rz ab) []=P at *;obtain⟨EK,Dm,rfl⟩:=B.slice;go_wp2;go_ret;exact⟨_,rfl,by rw[HR.aX];exact B,kr⟩
theorem awS l(n:Nat) v w(h:bD cL l v w)(B:∀x∈l,gu x)(Y:Z l<=1000000)(hn:n<18446744073709551616) :aK aR 234 #[v,G E n] w λe H=>∃M,e=ak M/\bK (λk=>k<D (L w)) (D (L w)) 128 cL (DW l n) M H/\K w H:=by
 have j:Hid (DW l n=(l.drop n).take 4):=aY rfl;have y:=h;obtain⟨A,c,rfl,z,X⟩:=h;generalize DW l n=R at *;have S:=K.rf w;by_cases C:Z l<=n
 .have HR:Hid (R=[]):=aY (by rw[j.aX,List.drop_eq_nil_of_le C];rfl);have T:(Z l:Int)<=n:=aZ;have hO:=bK.nil (λk=>k<D (L w)) (D (L w)) 128 cL w;clear y z C;go_in;go_wp2;go_ret;exact⟨_,rfl,by rw[HR.aX];exact hO,S⟩
 have T:¬(Z l:Int)<=n:=aZ;have:(n:Int)<=c:=aZ;have t:=ahb y n aZ (A':=Option.map ((λx=>x) ∘ λx=>x.add (n*8)) A) (λ_=>rfl);have HS:Hid (∀x∈(l.drop n).take 4,gu x):=aY λx V=>B x (List.mem_of_mem_drop (oW V))
 have oI:Z ((l.drop n).take 4)<=1000000:=cN;by_cases N:4<Z l-n
 .have Q:(4:Int)<((Z l-n:Nat):Int):=aZ;have H2:=aY (ayG (l:=l.drop n) (c:=c-n) (by rw[List.length_drop];exact t) 4 cN);rw[<- j.aX]at HS oI H2;clear y z B t j N;go_in;go_wp2_with fail
  try rw[show (min ((Z l-n:Nat):Int) 4).toNat=4 by omega]
  exact al6
 have Q:¬(4:Int)<((Z l-n:Nat):Int):=aZ;have O:R=l.drop n:=by rw[j.aX,jq (by simp;omega)]
 have H2:=aY t;rw[<- j.aX]at HS oI;rw[<- O]at H2;clear y z B t j N O;go_in;go_wp2_with fail
 try rw[show (min ((Z l-n:Nat):Int) 4).toNat=Z l-n by omega]
 exact al6
theorem ayH{l o:List (List fo)}{j}(h:j<Z l):rF o (l.drop j)=if o.any (λs=>rE s l[j])||(l.drop (j+1)).any (λs=>rE s l[j])then rF o (l.drop (j+1))else rF (o++[l[j]]) (l.drop (j+1)):=by rw[List.drop_eq_getElem_cons h];rfl
theorem ahc(l:List fo):∀u∈l.flatMap je,u.oneCell'=true:=by intro u hu;obtain⟨t,-,hu⟩:=List.mem_flatMap.1 hu;exact Yy
theorem auc l v w(h:bD rh l v w)(hlen:Z l<=500000)(hf:∀f∈l,Z f<=1000000) :aK aR 310 #[v] w λe w'=>∃v',e=ak v'/\bK (λk=>k<D (L w)) (D (L w)) 37 rh (uV l) v' w'/\K w w':=by
 have T:Hid (uV l=rF [] (l.drop 0)):=aY rfl;have HF:=aY hf;have HH:=aY h;obtain⟨A,c,rfl,hl,hc⟩:=h;generalize uV l=R at *;have kk:=K.rf w;have nV:=bK.nil (λk=>k<D (L w)) (D (L w)) 37 rh w;clear hf;go_in;go_wp2;go_step3;go_wp2_with fail
 go_step3;go_wp2_with fail
 go_loopw [3,4,5,7,9,12] (fun vo _ _ _ _ i W=>∃(j:Nat) (o:List (List fo)),j<=Z l/\i=G J (j:Int)/\Z o<=j/\(∀f∈o,Z f<=1000000)/\Hid (R=rF o (l.drop j))/\bK (fun k=>k<D (L w)) (D (L w)) 37 rh o vo W/\K w W) (fun _ _ _ _ _ i _=>Z l-(aO i).toNat)
 case atStart=>exact⟨0,[],aZ,rfl,bu,bu,T,nV,kk⟩
 case round =>
  clear nV kk T;obtain⟨j,o,hj,rfl,hoj,VQ,T,Q,kr⟩:=hrel;obtain⟨Ao,co,rfl⟩:=Q.slice;by_cases hlt:j<Z l;rotate_left
  .have cE:¬(j:Int)<(Z l:Int):=aZ;have y:Hid (R=o):=aY (by rw[T.aX,List.drop_eq_nil_of_le (by omega)];rfl);go_wp2;go_ret;exact⟨_,rfl,by rw[y.aX];exact Q,kr⟩
  have cE:(j:Int)<(Z l:Int):=aZ;obtain⟨b1,off,cs1,rfl,mR,hr1,d0,-⟩:=fE hl j hlt bG;have HS:=aY (ayH (o:=o) hlt);rw[<- T.aX]at HS;have FI:=HF.aX _ (dJ hlt);generalize l[j]=f at *;obtain⟨vf,rfl,J0⟩:=hr1 w (K.rf w);have d0:=λW k=>by simpa [rh]using d0 W k
  have HV:=aY J0;obtain⟨Af,cf,rfl,hRf⟩:=J0;have HRf:=aY hRf;clear mR hr1 hRf T;have q1:=d0 wr kr;generalize wr=w1 at *;go_wp2_with fail
  go_loopw [7,19] (fun _ i W=>∃k:Nat,k<=Z o/\i=G J (k:Int)/\Hid ((o.take k).any (fun s=>rE s f)=az)/\K w1 W) (fun _ i _=>Z o-(aO i).toNat)
  case atStart=>exact⟨0,aZ,rfl,aY bu,K.rf _⟩
  case round =>
   obtain⟨k,hk,rfl,hall,O⟩:=hrel;have eA:=kr.tr O;by_cases yC:k<Z o
   .have gW:(k:Int)<(Z o:Int):=aZ;obtain⟨A9,c9,H,hlo,-⟩:=Q.bD;injection H with H _ iV;subst H iV;obtain⟨b2,o2,VR,rfl,Pq,X,V,-⟩:=fE hlo k yC bG;have HB:=aY (BI (λs=>rE s f) o k yC);have MO:=aY (BJ (λs=>rE s f) o (k+1));have abL:=VQ _ (dJ yC);generalize o[k]=g at *;obtain⟨vg,rfl,M⟩:=X wr O;have q2:wr.cell? ⟨b2,o2+k,U⟩=I vg:=by simpa [rh]using V wr O
    have CC:=aY (afg g f vg _ wr M (fO _ _ _ _ HV.aX eA) abL FI);obtain⟨Ag,cg,rfl⟩:=dX M;have HO:=aY (Q.st O);clear Pq X V M hlo;go_wp2_with fail
    apply eu CC.aX O;intro w2 k2 kW;clear q2 CC;cases hx:rE g f;have rN:Hid ((o.take (k+1)).any (λs=>rE s f)=az):=aY Tj;clear hx;exact K4;have y:Hid (R=rF o (l.drop (j+1))):=aY (by rw[HS.aX,bV];rw[MO.aX (by rw[HB.aX,hx];simp)];rfl);have C:=HO.aX.st k2;have kF:=kr.tr kW;clear hx Q;go_wp2;go_roundw
    case rel=>exact⟨j+1,o,aZ,dh,aZ,VQ,y,C,kF⟩
    case measure=>simp[aO];omega
   have gW:¬(k:Int)<(Z o:Int):=aZ;have HN:=aY (by
    have:=hall.aX;rw[jq aZ]at this;exact this)
   have C:=Q.st O;clear hall;generalize wr=w4 at *;by_cases PX:j+1<Z l
   .have hcn:¬c=j+1:=aZ;have UN:=ahb HH.aX (j+1) aZ (A':=I ⟨b1,off+(j+1),U⟩) (λ_=>by simp[rh,Addr.add_lit]);obtain⟨A9,c9,H,VS,-⟩:=UN;injection H with H iV sP;subst H sP;have ER:Z (l.drop (j+1))=Z l-(j+1):=bu;have HFD:Hid (∀g∈l.drop (j+1),Z g<=1000000):=aY λg hg=>HF.aX g (List.mem_of_mem_drop hg)
    have HDL:=aY ER;clear ER iV;go_wp2_with fail
    go_loopw [9,32] (fun _ i W=>∃k:Nat,k<=Z l-(j+1)/\i=G J (k:Int)/\Hid (((l.drop (j+1)).take k).any (fun s=>rE s f)=az)/\K w4 W) (fun _ i _=>Z l-(j+1)-(aO i).toNat)
    case atStart=>exact⟨0,aZ,rfl,aY bu,K.rf _⟩
    case round =>
     obtain⟨k,hk,rfl,hall,N⟩:=hrel;have t:=eA.tr N;by_cases Uv:k<Z l-(j+1)
     .have aE9:(k:Int)<((Z l-(j+1):Nat):Int):=aZ;have Uw:k<Z (l.drop (j+1)):=by rw[HDL.aX];exact Uv
      obtain⟨b2,o2,VR,e2,Pq,X,V,-⟩:=fE VS k Uw bG;injection e2 with e2;injection e2 with e2 e3;subst e2 e3;have HB:=aY (BI (λs=>rE s f) (l.drop (j+1)) k Uw);have MO:=aY (BJ (λs=>rE s f) (l.drop (j+1)) (k+1));have abL:=HFD.aX _ (dJ Uw);generalize (l.drop (j+1))[k]=g at *;obtain⟨vg,rfl,M⟩:=X wr t;have q2:wr.cell? ⟨b1,off+(j+1)+k,U⟩=I vg:=by simpa [rh]using V wr t
      have CC:=aY (afg g f vg _ wr M (fO _ _ _ _ HV.aX t) abL FI);obtain⟨Ag,cg,rfl⟩:=dX M;clear Pq X V M Uw;go_wp2_with fail
      apply eu CC.aX N;intro w2 k2 kW;clear q2 CC;cases hx:rE g f;have rN:Hid (((l.drop (j+1)).take (k+1)).any (λs=>rE s f)=az):=aY Tj;clear hx;exact K4;have y:Hid (R=rF o (l.drop (j+1))):=aY (by rw[HS.aX,bV];rw[MO.aX (by rw[HB.aX,hx];simp)];simp);have B:=C.st kW;have kF:=eA.tr kW;clear hx C;go_wp2;go_roundw
      case rel=>exact⟨j+1,o,aZ,dh,aZ,VQ,y,B,kF⟩
      case measure=>simp[aO];omega
     have aE9:¬(k:Int)<((Z l-(j+1):Nat):Int):=aZ;have Hr:=aY (by
      have:=hall.aX;rw[jq (by rw[HDL.aX];omega)]at this;exact this)
     clear VS;have y:Hid (R=rF (o++[f]) (l.drop (j+1))):=aY al7;have CL:=aY (ae8 Af (Z f) cf (f.flatMap je) wr ((HRf.aX.below t (bP _)).more t.size) (ahc f) aZ);have B:=C.st N;clear C Hr;go_wp2_with fail
     apply dP CL.aX;rintro Y w6⟨z,k6⟩;have dU:=BQ z;have oN:Fx (λk=>k<D (L wr)) (λW=>rh.rel f [Y] W) w6:=λW u=>⟨Y,rfl,BQ (kj z u λb hb hk=>by have:=(z.lt b hb).1;omega)⟩
     obtain⟨A6,c6,rfl⟩:=dX dU;have abM:=t.tr k6;have hr:=fL.new (S:=rh) (e:=37) (v:=F A6 (Z f) c6) oN 0 (fw _);have qv:=t.size;have dR:=B.blk;have kA:=K.new w6 (aq #[F A6 (Z f) c6] 37);have fC:=B.st (k6.tr kA);have Pv:=abM.tr kA;have Ux:=Pv.size;clear B z dU oN CL;go_wp2_with (at_builtin;refine j0 rfl _ _ 352 rfl _ 1 24 TFl rfl rfl fC _ rfl f ?p1 ?p2 ?p3 ?_)
     case p1=>exact hr.less λk hk=>al8
     case p2=>omega
     case p3=>exact Ux
     intro v9 w9 cX dW gD cV;have zq:=Pv.trans cV;have abN:∀g∈o++[f],Z g<=1000000:=λg hg=>by exact al9
     clear hr fC dW gD cV dR;go_wp2;go_roundw
     case rel=>exact⟨j+1,o++[f],aZ,dh,cN,abN,y,cX,zq⟩
     case measure=>simp[aO];omega
   have Hr:Hid ((l.drop (j+1)).any (λs=>rE s f)=az):=aY (by rw[List.drop_eq_nil_of_le (by omega)];rfl);have hz0:Z l-(j+1)=0:=aZ;go_wp2_with fail
   all_goals
    go_loopw [9,32] (fun _ i W=>i=G J 0/\K w4 W) (fun _ _ _=>0)
   all_goals first|(exact⟨rfl,K.rf _⟩)|skip
   all_goals
    obtain⟨rfl,N⟩:=hrel
    have t:=eA.tr N
    have y:Hid (R=rF (o++[f]) (l.drop (j+1))):=aY al7
    have CL:=aY (ae8 Af (Z f) cf (f.flatMap je) wr ((HRf.aX.below t (bP _)).more t.size) (ahc f) aZ)
    have B:=C.st N
    clear C Hr
    go_wp2_with fail
    apply dP CL.aX
    rintro Y w6⟨z,k6⟩
    have dU:=BQ z
    have oN:Fx (λk=>k<D (L wr)) (λW=>rh.rel f [Y] W) w6:=λW u=>⟨Y,rfl,BQ (kj z u λb hb hk=>by have:=(z.lt b hb).1;omega)⟩
    obtain⟨A6,c6,rfl⟩:=dX dU
    have abM:=t.tr k6
    have hr:=fL.new (S:=rh) (e:=37) (v:=F A6 (Z f) c6) oN 0 (fw _)
    have qv:=t.size
    have dR:=B.blk
    have kA:=K.new w6 (aq #[F A6 (Z f) c6] 37)
    have fC:=B.st (k6.tr kA)
    have Pv:=abM.tr kA
    have Ux:=Pv.size
    clear B z dU oN CL
    go_wp2_with (at_builtin;refine j0 rfl _ _ 352 rfl _ 1 24 TFl rfl rfl fC _ rfl f ?p1 ?p2 ?p3 ?_)
    case p1=>exact hr.less λk hk=>al8
    case p2=>omega
    case p3=>exact Ux
    intro v9 w9 cX dW gD cV
    have zq:=Pv.trans cV
    have abN:∀g∈o++[f],Z g<=1000000:=λg hg=>by exact al9
    clear hr fC dW gD cV dR
    go_wp2
    try rw[<- h]
    go_roundw
    case rel=>exact⟨j+1,o++[f],aZ,dh,cN,abN,y,cX,zq⟩
    case measure=>simp[aO];omega
theorem aud l a v w(h:bD eH l v w)(S:Z l<=1000000) :aK aR 239 #[v,G J a] w λe C=>∃i:Int,e=ak (G J i)/\K w C/\decide (0<=i)=l.any λx=>decide (x=a):=by
 have y:=K.rf w;obtain⟨A,c,rfl,B,-⟩:=h;go_in;go_wp2_with fail
 go_loopw [5,8] (fun _ i wr=>∃k:Nat,k<=Z l/\i=G J k/\Hid ((l.take k).any (fun x=>decide (x=a))=az)/\K w wr) (fun _ i _=>Z l-(aO i).toNat)
 case atStart=>exact⟨0,aZ,rfl,aY bu,y⟩
 case round =>
  clear y;obtain⟨k,O,rfl,hall,kr⟩:=hrel;by_cases j:k<Z l
  .have gW:(k:Int)<Z l:=aZ;obtain⟨Q,R,rfl,z⟩:=ints_at B aZ;have HB:=aY (BI (λx=>decide (x=a)) l k j);have N:=aY (BJ (λx=>decide (x=a)) l (k+1));have q:=z wr kr k j;generalize l[k]=t at *;clear z;by_cases hx:t=a
   .have HE:=aY (N.aX aab);have M:(a==t)=true:=K0;clear hx;go_wp2;go_ret;exact⟨_,rfl,kr,by rw[HE.aX];simp⟩
   have H:Hid ((l.take (k+1)).any (λx=>decide (x=a))=az):=aY (by rw[HB.aX,hall.aX];simpa using hx);have M:(a==t)=false:=by simpa using λe=>hx e.symm
   clear hx;go_wp2;go_roundw
   case rel=>exact⟨k+1,aZ,dh,H,kr⟩
   case measure=>simp[aO];omega
  exact ZM
theorem aeK l a v w(h:bD eH l v w)(C:Z l<=1000000) :aK aR 169 #[v,G J a] w λe t=>e=ak (ar (decide (a∈l)))/\K w t:=by
 have B:=aY (aud l a v w h C);obtain⟨A,c,rfl⟩:=bH h;have z:Hid (decide (a∈l)=l.any λx=>decide (x=a)):=aY aac;generalize decide (a∈l)=R at *;go_in;go_wp2_with fail
 refine B.aX.mono ?_;rintro e M⟨i,rfl,j,y⟩;have H:=aY y;go_wp2;go_ret;exact⟨by rw[z.aX,<- H.aX];rfl,j⟩
theorem avo s cs v vc g w(h:sub s v w)(hg:bn w g 23 #[vc])(j:bD eH cs vc w)(z:Z cs<=1000000) :aK aR 309 #[v,aj (I ⟨g,0,U⟩)] w λe y=>e=ak (ar (decide (s.cl∈cs)))/\K w y:=by obtain⟨vs,rfl,t⟩:=h;obtain⟨A,d,rfl⟩:=dX t;have hb:=bn.new w 260 (qO s (F A (Z s.f) d));have k1:=hb.cG;have hg1:=hg.bM k1;have C1:=aY (aeK cs s.cl vc _ (cM j k1) z);obtain⟨C,B,rfl⟩:=bH j;generalize decide (s.cl∈cs)=R at *;exact ali
theorem atm l cs v vc w(h:bD jZ l v w)(Q:bD eH cs vc w)(hlen:Z l<=500000)(hcl:Z cs<=1000000)(H:∀s∈l,Z s.f<=1000000) :aK aR 285 #[v,vc] w λe w'=>∃v',e=ak v'/\bD rh (uV ((tk l cs).map (·.f))) v' w'/\K w w':=by
 have HR:Hid (uV ((tk l cs).map (·.f))=uV ((l.filter λs=>decide (s.cl∈cs)).map (·.f))):=aY rfl;have HL:=aY (Li h);have HS:=aY H;have HC:=aY Q;obtain⟨A,d,rfl⟩:=bH h;obtain⟨Ac,cc,rfl⟩:=bH Q;have C:=bn.new w 23 #[F Ac (Z cs) cc];have k1:=C.cG;generalize uV ((tk l cs).map (·.f))=R at *;clear h Q H;go_in;go_upto_region 1 with fail;generalize w.alloc _=w1 at *;have hz1:=k1.size;generalize pz:D (L w)=lo at C HL hz1|-;have C1:=aY (Iz (λk=>lo<=k) l _ (λs=>decide (s.cl∈cs)) 309 #[aj (I ⟨lo,0,U⟩)] w1 (HL.aX.st k1) aZ (λ_ _=>dH) λW k s _ u hu=>avo s cs u _ lo W hu (C.bM k) (cM HC.aX (k1.tr k)) hcl);clear pz;go_wp2_with fail
 apply dP C1.aX;rintro v2 B⟨M,k2⟩;have:=oo (λs=>decide (s.cl∈cs)) l;have Hn:=KU (q:=λs=>decide (s.cl∈cs)) HS.aX;generalize l.filter (λs=>decide (s.cl∈cs))=t at *;have dt:=k1.tr k2;have:=M.blk;obtain⟨A2,c2,rfl⟩:=M.slice;have H2:=aY (M.Dk (N:=λk=>lo<=k/\aW (F A2 (Z t) c2)≠I k) (λk z=>aI z.1) λk h1 h2=>h2.2 h1);have MK:=aY Hn;have nV:=bK.nil (λk=>lo<=k/\aW (F A2 (Z t) c2)≠I k) (D (L B)) 37 rh B;have kk:=K.rf B;clear C1 M C Hn;go_wp2_with fail
 go_loopw [6,8,14] (fun vo _ i W=>∃j:Nat,j<=Z t/\i=G J j/\bK (fun k=>lo<=k/\aW (F A2 (Z t) c2)≠I k) (D (L B)) 37 rh ((t.take j).map (·.f)) vo W/\K B W) (fun _ _ i _=>Z t-(aO i).toNat)
 case atStart=>exact⟨0,aZ,rfl,iF,kk⟩
 case round =>
  clear nV kk;obtain⟨j,hj,rfl,y,kr⟩:=hrel;by_cases hlt:j<Z t
  .have cE:(j:Int)<Z t:=aZ;obtain⟨b,V,c',cs1,O,wy,mR,T,d⟩:=H2.aX.at j hlt bG;injection O with O _ e2;subst O e2;have HT:Hid ((t.take (j+1)).map (·.f)=(t.take j).map (·.f)++[t[j].f]):=aY Zj;generalize t[j]=x at *;obtain⟨vf,rfl,J0⟩:=T.now;have q9:∀i,i<3->wr.cell? ⟨b,V+j*3+i,U⟩=(qO x vf)[i]?:=λi hi=>(d wr (bf.cz kr _) i hi).trans aD
   have q0:wr.cell? ⟨b,V+j*3,U⟩=I (G J x.cl):=by first|exact q9 0 (by decide)|simp
   have zo:Fx (λk=>lo<=k/\aW (F (I ⟨b,V,U⟩) (Z t) c2)≠I k) (λW=>rh.rel x.f [vf] W) B:=λW u=>by obtain⟨nc,e,h⟩:=T W u;simp at e;subst e;exact⟨_,rfl,h⟩
   obtain⟨Af,X,rfl⟩:=dX J0;have hx:=bn.new wr 260 (qO x (F Af (Z x.f) X));have k3:=hx.cG;obtain⟨Ao,co,rfl⟩:=y.slice;have:Z ((t.take j).map (·.f))<=500000:=cN;clear d T J0 mR;go_upto_region 6 with fail;have dS:=y.st k3;have eA:=kr.tr k3;generalize wr.alloc _=w3 at *;clear q9 q0 y;have:=hx.cell;generalize (t.take j).map (·.f)=o at *;have dR:=dS.blk;have hr:=fL.new (S:=rh) (e:=37) (v:=F Af (Z x.f) X) (zo.k eA) 0 (fw _);have kA:=K.new w3 (aq #[F Af (Z x.f) X] 37);have fC:=dS.st kA;have iX:=eA.tr kA;have lr:=iX.size;clear dS zo;go_wp2_with (at_builtin;refine j0 rfl _ _ 352 rfl _ 1 24 TFl rfl rfl fC _ rfl x.f ?p1 ?p2 ?p3 ?_)
   case p1 => exact hr.less λk z=>by rcases z with z|z;exact z;have h1:=dR k z;have h2:=k2.size;grind
   case p2=>omega
   case p3=>simpa using lr
   intro v9 w9 cX dW gD cV;have zq:=iX.trans cV;clear hr fC dW gD cV dR;go_wp2;go_roundw
   case rel=>exact⟨j+1,aZ,dh,by rw[HT.aX];exact cX,zq⟩
   case measure=>simp[aO];omega
  have cE:¬(j:Int)<Z t:=aZ;have hE:(t.take j).map (·.f)=t.map (·.f):=bL;rw[hE]at y;have CR:=aY (auc (t.map (·.f)) _ wr y.bD cN (λf hf=>by obtain⟨s,H,rfl⟩:=List.mem_map.1 hf;exact MK.aX s H));obtain⟨Ao,co,rfl⟩:=y.slice;rw[<- HR.aX]at CR;have rS:=dt.tr kr;clear hE y;generalize t.map (·.f)=o at *;go_wp2_with fail
  apply tY CR.aX rS;intro v5 w5 Y k5 kF;have rL:=aY Y.bD;obtain⟨A5,c5,rfl⟩:=Y.slice;clear CR Y;go_wp2;go_ret;exact⟨_,rfl,rL.aX,kF⟩
theorem aBX{e}(h:iM e=aA):∀x∈e,mX x=true:=by
 simp only[iM,fI,decide_eq_true_eq]at h;have key:∀(l:List eD) (p:Option ByteArray),mc p l=aA->∀x∈l,mX x=true:=by
  intro l;induction l with
  | nil=>intro p _ x j;simp at j
  | cons y l t => grind [iM,mX,mc]
 exact key e U h.2
theorem awU{l cs}{es:List (List eD)}(t:∀s∈l,okF s.f=aA)(j:∀e∈es,iM e=aA):es.filter (mA (uV ((tk l cs).map (·.f))))=es.filter (anyS (tk l cs)):=by
 refine List.filter_congr λe hm=>?_
 rw[awN (λf y=>?_) (aBX (j e hm))]
 .grind [mA,anyS,List.any_map]
 grind [okF,iM,mA,uV,tk,anyS]
theorem awV l e v ve g w(j:bD rh l v w)(hg:bn w g 352 #[v])(t:iI e ve w)(M:Z l<=1000000)(C:∀f∈l,Z f<=1000000)(H:Z e<=1000000) :aK aR 286 #[ve,aj (I ⟨g,0,U⟩)] w λr B=>r=ak (ar (mA l e))/\K w B:=by
 have y:=aY (ayF l e v ve w j t M C H);obtain⟨N,O,rfl⟩:=tN t;obtain⟨A,c,rfl⟩:=bH j;generalize mA l e=R at *;clear j t;have q:=hg.cell;go_in;go_wp2_with fail
 apply bW y.aX;intro Q z;clear y q hg;go_wp2;go_ret;exact⟨rfl,z⟩
theorem ahd l cs x v vc vx w(h:bD jZ l v w)(hc:bD eH cs vc w)(hx:fM x vx w)(hlen:Z l<=500000)(hcl:Z cs<=1000000)(hs:∀s∈l,okF s.f=aA)(H:dE x=aA) :aK aR 235 #[v,vc,vx] w λe w'=>∃v',e=ak v'/\yF (D (L w)) (lX l cs x) v' w'/\K w w':=by
 have tI:=aY (wX H);have Ii:∀s∈l,Z s.f<=1000000:=λs hs'=>by have:=(Gv (hs s hs')).1;omega
 have CF:=aY λW (k:K w W)=>atm l cs v vc W (cM h k) (cM hc k) hlen hcl Ii
 have VT:Hid (Z (uV ((tk l cs).map (·.f)))<=1000000/\∀f∈uV ((tk l cs).map (·.f)),Z f<=1000000):=aY (by
  have h1:Z (tk l cs)<=Z l:=oo _ _;refine⟨?_,λf Q=>?_⟩;have:=@Yg ((tk l cs).map (·.f)) [];unfold uV;simp at this;omega;have:=Yf Q;simp only[List.not_mem_nil,false_or]at this;obtain⟨s,hs',rfl⟩:=List.mem_map.1 this;exact Ii s (List.mem_filter.1 hs').1)
 have HCF:Hid (x.bA=1->x.es.filter (mA (uV ((tk l cs).map (·.f))))=x.es.filter (anyS (tk l cs))):=aY λhk=>awU hs (by
  unfold dE at H;rw[bV hk]at H;simp only[fI,yq]at H;exact H.2.2)
 have VU:Hid (lX l cs x=if x.bA=1 then { x with es:=x.es.filter (anyS (tk l cs)) }else x):=aY rfl;obtain⟨vf,ve,rfl,Q,B⟩:=hx;have HF:=aY Q;have HE:=aY B;obtain⟨Af,cf,rfl⟩:=dX Q;obtain⟨M,N,rfl⟩:=bH B;obtain⟨A,d,rfl⟩:=bH h;obtain⟨Ac,cc,rfl⟩:=bH hc;generalize uV ((tk l cs).map (·.f))=RF at *;generalize lX l cs x=R at *;have k1:=K.ou w (aq (cB x (F Af (Z x.f) cf) (F M (Z x.es) N)) 128) (aq #[G J 0,G J 0,G E 0,G E 0,G J 0,G E 0,F U 0 0,F U 0 0] 128);have C:=(bn.new w 128 (cB x (F Af (Z x.f) cf) (F M (Z x.es) N))).alloc (aq #[G J 0,G J 0,G E 0,G E 0,G J 0,G E 0,F U 0 0,F U 0 0] 128);have hr:=bn.new (aU w (aq (cB x (F Af (Z x.f) cf) (F M (Z x.es) N)) 128)) 128 #[G J 0,G J 0,G E 0,G E 0,G J 0,G E 0,F U 0 0,F U 0 0];have hz:D (L (aU w (aq (cB x (F Af (Z x.f) cf) (F M (Z x.es) N)) 128)))=D (L w)+1:=bu;rw[hz]at hr;clear Q B h hc Ii hs H hz;go_in;go_upto_region 1 with fail;generalize ay (ay w _) _=Y at *;generalize pz:D (L w)=lo at C hr|-;have pA:=aY pz.symm;have abO:=hr.lt;clear pz;by_cases hk:x.bA=1;rotate_left
 .have hkb:(x.bA==1)=false:=vP;obtain⟨es,j⟩:∃es,es=x.es:=⟨_,rfl⟩;have QO:Hid (R={ x with es:=es }):=aY (by rw[VU.aX,bQ hk,j]);have lM:Z es<=1000000:=by rw[j];exact tI.aX.2.1
  have gK:∀e∈es,Z e<=1000000:=by rw[j];exact tI.aX.2.2
  have hle:bD eB es (F M (Z es) N) Y:=by rw[j];exact cM HE.aX k1
  have hx:bn Y lo 128 (cB x (F Af (Z x.f) cf) (F M (Z es) N)):=by rw[j];exact C
  have q0:=hx.cell;have kA:=k1;have wK:=abO;clear hk j VU HCF HE C k1 abO CF VT;generalize Y=wA at *;go_upto_region 4 with fail;clear q0;exact ama
 have hkb:(x.bA==1)=true:=vP;have Es:=aY (HCF.aX hk);have JP:Hid (R={ x with es:=x.es.filter (anyS (tk l cs)) }):=aY (by rw[VU.aX,bV hk]);have q0:=C.cell;have C1:=aY (CF.aX Y k1);clear hk HCF VU CF;go_wp2_with fail
 apply dP C1.aX;rintro v2 w2⟨Pn,S⟩;obtain⟨A2,c2,rfl⟩:=bH Pn;have hb2:=C.bM S;have dC:=hr.bM S;have dt:=k1.tr S;clear C1 C hr q0;go_upto_region 3 with fail;have T:=bn.new w2 352 #[F A2 (Z RF) c2];have kB:=T.cG;have dB:=hb2.bM kB;have gX:=dC.bM kB;have po:=dt.tr kB;have H3:=aY (cM Pn kB);have hz2:=S.size;clear hb2 dC Pn;generalize w2.alloc _=w3 at *;generalize D (L w2)=g3 at T hz2|-;have Mi:=(Li HE.aX).st po;have C2:=aY (afA (λk=>D (L w)<=k) x.es _ (mA RF) 286 #[aj (I ⟨g3,0,U⟩)] w3 Mi tI.aX.2.1 (λ_ _=>dH) λW k e B u hu=>awV RF e _ u g3 W (cM H3.aX k) (T.bM k) hu VT.aX.1 VT.aX.2 (tI.aX.2.2 e B));have q3:=dB.cell;clear Mi;go_wp2_with fail
 apply dP C2.aX;rintro v4 O⟨V,k4⟩;obtain⟨es,j⟩:∃es,es=x.es.filter (mA RF):=⟨_,rfl⟩;have QO:Hid (R={ x with es:=es }):=aY (by rw[JP.aX,j,Es.aX]);have lM:Z es<=1000000:=by rw[j];exact cQ (oo _ _) tI.aX.2.1
 have gK:∀e∈es,Z e<=1000000:=by rw[j];exact λe B=>tI.aX.2.2 e (List.mem_filter.1 B).1
 rw[<- j]at V;have hb4:=dB.bM k4;have iq:=gX.bM k4;have Br:=po.tr k4;have jg:=T.lt;clear C2 q3 dB gX j JP Es;have dR:=V.blk;obtain⟨t,c4,rfl⟩:=V.slice;have q:=hb4.cell;have z:=hb4.frozen;go_upto_region 4 with fail;have hx:bn (aV O ⟨lo,7,U⟩ (F t (Z es) c4)) lo 128 (cB x (F Af (Z x.f) cf) (F t (Z es) c4)):=hb4.cH 7 _;have hr:=iq.far (p:=⟨lo,7,U⟩) bu (F t (Z es) c4);have kA:K w (aV O ⟨lo,7,U⟩ (F t (Z es) c4)):=K.set Br aad 7 _;have hle:bD eB es (F t (Z es) c4) (aV O ⟨lo,7,U⟩ (F t (Z es) c4)):=(V.to (X:=λk=>k=lo) (Y':=λ_=>False) (bf.dx (X:=λk=>k=lo) rfl 7 _) (λk hk=>by rw[hk,pA.aX];exact bP _) (λk hk e=>bL) (λk _ hk=>hk.elim)).bD;have wK:lo+1<D (L (aV O ⟨lo,7,U⟩ (F t (Z es) c4))):=by have:=iq.lt;simpa using this
 clear hb4 iq V q z Br dt po k1 abO T H3 VT kB S k4 dR jg hz2 HE;generalize O.setCell _ _=wA at *;exact ama
def zG(par bj:List Int)(k:Int)(j:Nat):List Int:=((List.range j).filter λc=>match bj[c]? with|some h=>FW par k h|none=>az).map λ(c:Nat)=>(c:Int)
theorem atn{par bj:List Int}{k:Int}{j:Nat}(h:j<Z bj):zG par bj k (j+1)=if FW par k bj[j]then zG par bj k j++[(j:Int)]else zG par bj k j:=by unfold zG;rw[List.range_succ,List.filter_append,List.map_append];have t:bj[j]?=I bj[j]:=aE h;cases hu:FW par k bj[j] <;> simp[t,hu]
theorem afh par bj k j:Z (zG par bj k j)<=j:=by grind [zG]
theorem asO{M p B w}(h:df M p B w)(z:dq B) t :aK aR 233 #[aj (I ⟨p.g,0,U⟩),G J t] w λe O=>∃Q,e=ak Q/\bK (λk=>k<D (L w)) (D (L w)) 3 eH (x9 B t) Q O/\K w O:=by
 have HR:Hid (x9 B t=zG B.par B.bj t (Z B.bj)):=aY rfl;have:=NN z.hm;have:=(rr z.tr).2;have y:=aY λW (k:K w W)=>(h.dz.at k).par
 have hh:=h.dz.now.bj;have q:=h.q;obtain⟨g,gl,gd,gr,gt,vd,vr,vp,vh,vl,vq,va,vt,vf,vw,kr⟩:=p;simp only at q hh y;have hvp:=bH (y.aX w (K.rf w));obtain⟨Ap,cp,rfl⟩:=hvp;have CU:=aY λW (k:K w W) b=>ax6 B.par t b _ W (y.aX W k) aZ
 generalize x9 B t=R at *;obtain⟨A,c1,rfl,hl,-⟩:=hh;have V:=K.rf w;have T:=bK.nil (λk=>k<D (L w)) (D (L w)) 3 eH w;clear h z y;go_in;go_wp2_with fail
 go_loopw [5,6,7,13] (fun vo _ _ i W=>∃j:Nat,j<=Z B.bj/\i=G J j/\bK (fun k=>k<D (L w)) (D (L w)) 3 eH (zG B.par B.bj t j) vo W/\K w W) (fun _ _ _ i _=>Z B.bj-(aO i).toNat)
 case atStart=>exact⟨0,aZ,rfl,T,V⟩
 case round =>
  clear T V;obtain⟨j,hj,rfl,hO,kr⟩:=hrel;by_cases H:j<Z B.bj
  .have cE:(j:Int)<Z B.bj:=aZ;obtain⟨b1,off,rfl,hcell⟩:=ints_at hl aZ;have q2:=hcell wr kr j H;have HS:=aY (atn (par:=B.par) (k:=t) H);have:=afh B.par B.bj t j;generalize B.bj[j]=hm at *;have C1:=aY (CU.aX wr kr hm);generalize zG B.par B.bj t j=o at *;obtain⟨Ao,co,rfl⟩:=hO.slice;clear hcell;go_wp2_with fail
   apply eu C1.aX kr;intro w2 k2 ni;have C:=hO.st k2;clear C1 q2 hO;cases hu:FW B.par t hm
   .have y:Hid (zG B.par B.bj t (j+1)=o):=aY (by rw[HS.aX,hu];rfl);clear hu;go_wp2;go_roundw
    case rel=>exact⟨j+1,aZ,dh,by rw[y.aX];exact C,ni⟩
    case measure=>simp[aO];omega
   have y:Hid (zG B.par B.bj t (j+1)=o++[(j:Int)]):=aY (by rw[HS.aX,hu];rfl);have hr:=fL.new (S:=eH) (e:=3) (x:=(j:Int)) (v:=G J j) (w:=w2) (N:=λk=>k<D (L w)\/aW (F Ao (Z o) co)=I k) (λW u=>rfl) 0 (fw _);have kA:=K.new w2 (aq #[G J j] 3);have Y:=C.st kA;have sQ:=ni.tr kA;have sO:=sQ.size;clear C hu;go_wp2_with (at_builtin;refine j0 rfl _ _ 23 rfl _ 1 8 FZ rfl rfl Y _ rfl (j:Int) ?p1 ?p2 ?p3 ?_)
   case p1=>exact hr
   case p2=>omega
   case p3=>simpa using sO
   intro v9 w9 cX dW gD X;have zq:=sQ.trans X;clear hr Y dW gD X;go_wp2;go_roundw
   case rel=>exact⟨j+1,aZ,dh,by rw[y.aX];exact cX,zq⟩
   case measure=>simp[aO];omega
  have cE:¬(j:Int)<Z B.bj:=aZ;obtain rfl:j=Z B.bj:=aZ;rw[<- HR.aX]at hO;obtain⟨Ao,co,rfl⟩:=hO.slice;exact SY
theorem bK.abP{α S Y base e l go cap w}(h:bK Y base e S l (F (I ⟨go,0,U⟩) (Z l) cap) w){j}(hj:j<Z l){y:α}{cs}(hc:Z cs=S.size)(O:Fx (λk=>Y k\/k=go) (λW=>S.rel y cs W) (ei w go (j*S.size) cs)):bK Y base e S (l.set j y) (F (I ⟨go,0,U⟩) (Z l) cap) (ei w go (j*S.size) cs):=by obtain⟨t,Q,h2,C⟩:=h;have z:=C w (bf.rf _ _);have T:j<Z t:=aZ;have N:=z.lens;have:=z.D2;have:j*S.size+S.size<=Z l*S.size:=amb;have M:=R8 cs t.flatten (j*S.size) w Q aZ;have A:=Rl S.size cs t N j 0 T aZ;rw[Nat.add_zero]at A;rw[A,Xh cs t[j] 0 bL,TU,bZ]at M;refine⟨t.set j cs,bL,bL,λB u=>?_⟩;have R:bf (λk=>Y k\/aW (F (I ⟨go,0,U⟩) (Z l) cap)=I k) w (ei w go (j*S.size) cs):=bf.sets (X:=λk=>Y k\/aW (F (I ⟨go,0,U⟩) (Z l) cap)=I k) (aJ rfl) cs _ w;exact (C B (R.tr u)).set j (O B (u.more λk H=>H.imp id λe=>amc))
def uY(t:List bU)(cs:List Int)(n j:Nat)(l:List bU):List bU:=l.zipIdx.map λp=>if p.2<j then lX (nK (t.take (n+p.2))) cs p.1 else p.1
theorem ayI aT cs n l:uY aT cs n 0 l=l:=by simp[uY]
theorem IK t cs n j l:Z (uY t cs n j l)=Z l:=by simp[uY]
theorem aBY t cs n j l(h:j<Z l):(uY t cs n j l)[j]'(by rw[IK];exact h)=l[j]:=by grind [uY]
theorem ayJ t cs n j l(h:j<Z l):uY t cs n (j+1) l=(uY t cs n j l).set j (lX (nK (t.take (n+j))) cs l[j]):=by apply List.ext_getElem?;intro i;grind [uY,lX,nK]
theorem aAI B cs n l:uY B.st.bq cs n (Z l) l=Fo B cs n l:=by grind [uY,Fo,List.map_congr_left,List.mem_zipIdx]
theorem aAJ{l}(h:∀x∈l,dE x=aA):∀s∈nK l,okF s.f=true:=by
 have key:∀(l:List bU) (o:List nQ),(∀x∈l,dE x=aA)->(∀s∈o,okF s.f=aA)->∀s∈l.foldl nt o,okF s.f=true:=by
  intro l;induction l with
  | nil=>intro o _ ho;exact ho
  | cons x l t =>
   intro o j ho;refine t _ (λy hy=>j y K6) ?_;unfold nt;split;exact ho;unfold xg;split
   .rename_i h2;intro s hs;simp only[r7,List.mem_singleton]at hs;rcases hs with (hs|rfl)|hs;exact Tk;rcases (Gs (j x bu)).2.2 with ⟨g,-⟩|⟨g,-⟩|⟨-,-,g⟩;omega;omega;exact g;exact Tk
   split;intro s hs;rcases List.mem_append.1 hs with hs|hs;exact Tk;exact Tk;exact ho
 exact key l [] h λs hs=>by simp at hs
theorem aDb(n:Nat)(h:n<=1000000):J.wrap (n:Int)=n:=by rw[IntKind.wrap_i64];omega
theorem anF(n:Nat)(h:n<=1000000):E.wrap (n:Int)=n:=by show (n:Int)%2^64=_;omega
theorem aAK{B B' x v W w}(h:yF B x v w)(hb:B'<=B)(k:K W w):∃t,ak v=ak t/\(∃vf j,t=av (cB x vf j)/\Fx (λk=>k<B') (λW=>cL.rel x (cB x vf j).toList W) w)/\K W w:=by obtain⟨vf,j,e,h⟩:=E5 h;exact⟨_,rfl,⟨vf,j,e,h.less λk y=>cZ y hb⟩,k⟩
theorem asP{M p B w}(h:df M p B w)(hG:dq B)(hn:B.cA.Nodup)(gT:Z B.cA<=800000) t :aK aR 166 #[aj (I ⟨p.g,0,U⟩),G J t] w λe w'=>∃v',e=ak v'/\nU (ya B t) v' w'/\K w w':=by
 have VV:Hid (ya B t=⟨2,sZ B t,[],[],Fo B (x9 B t) (sZ B t) (DW B.st.bq (sZ B t)),((if ot B then B.dy else B.st.bF).take 16).map (lX (nK B.st.bq) (x9 B t)),yw (DN B) (kZ B t).cR,yr B.st B.dy (kZ B t)⟩):=aY rfl;have aKB:=hG.anE t;have hinv:=hG.dk.inv;have ja:=hG.GL;have hlen:=hG.dk.len;have hwl:=hG.Cq;have hhv:sZ B t<=Z B.st.bq:=Nat.min_le_right _ _;have HH:Hid (sZ B t=min (kZ B t).got (Z B.st.bq)):=aY rfl;have q:=h.q;have Q1:=aY λW (k:K w W)=>(E0 (D3 (P:=aR) (kt:=3) underlying3) underlying159 (anD W) (h.rep.st k) t).2
 have HM:Hid (∀W,K w W->nU (kZ B t) ((eX p.kr t).getD (av Gd)) W):=aY λW k=>(h.dz.at k).dm.look t
 have CC:=aY λW (k:K w W)=>asO (h.st k) hG t
 have CS:=aY λW (k:K w W) n hn=>afE (h.st k) hG n hn
 have CF:=aY λW (k:K w W)=>awS B.st.bq (sZ B t) p.vl W (h.dz.at k).bq ja.1 aZ aZ
 have CK:=aY λW (k:K w W)=>atO (h.st k) hG hn
 have CR:=aY λW (k:K w W)=>Rw (h.st k)
 have HD:=aY λW (k:K w W)=>h.dz.at k
 have HSO:=aY λn=>aAJ (l:=B.st.bq.take n) λx hx=>(hinv.Bd x (oW hx)).1
 have HSL:=aY λn=>XC (B.st.bq.take n)
 have tv:Z (DN B)<=1000000:=by unfold DN;rw[fg];omega
 have HOL:=aY hinv.Bd;have HOP:=aY hinv.CZ;have HOW:=aY hG.dy;have hcl:Z (x9 B t)<=32:=by have:=afh B.par B.bj t (Z B.bj);have:=(NN hG.hm).2;show Z (zG B.par B.bj t (Z B.bj))<=32;omega
 have HCA:Hid (∀j l,j=Z l->uY B.st.bq (x9 B t) (sZ B t) j l=Fo B (x9 B t) (sZ B t) l):=aY λj l e=>by rw[e];exact aAI B _ _ l
 have dU:∀x∈DW B.st.bq (sZ B t),x∈B.st.bq:=λx hx=>List.mem_of_mem_drop (oW hx)
 have hfn:Z (DW B.st.bq (sZ B t))+sZ B t<=Z B.st.bq:=by unfold DW;simp;omega
 have Ht:=aY dU;generalize ya B t=R at *;generalize x9 B t=H at *;generalize DN B=kn at *;generalize sZ B t=C at *;generalize kZ B t=A at *;generalize DW B.st.bq C=es at *;obtain⟨g,gl,gd,gr,gt,vd,vr,vp,vh,vl,vq,va,vt,vf,vw,kr⟩:=p;simp only at q Q1 HM CC CS CF CK CR HD;have uA:=HD.aX w (K.rf w);obtain⟨Al,cl,rfl⟩:=bH uA.bq;obtain⟨Aq,cq,rfl⟩:=bH uA.bF;obtain⟨Aa,ca,rfl⟩:=bH uA.ab;obtain⟨Aw,cw,rfl⟩:=bH uA.dy;obtain⟨m1,m2,m3,m4,m5,m6,em,pg,hm2,AQ,Ej,LR,FM⟩:=HM.aX w (K.rf w);obtain⟨A1,c1,rfl⟩:=bH pg;obtain⟨A2,c2,rfl⟩:=bH hm2;obtain⟨A3,c3,rfl⟩:=bH AQ;obtain⟨A4,c4,rfl⟩:=bH Ej;obtain⟨A5,c5,rfl⟩:=bH LR;obtain⟨A6,c6,rfl⟩:=bH FM;rw[em]at HM Q1;have Qb:=bn.new w 239 Gd;have k1:=Qb.cG;simp only[encI]at Q1;clear h hG hn uA em pg hm2 AQ Ej LR FM hinv dU;go_in;go_upto_region 1 with fail;generalize w.alloc _=w1 at *;generalize CI:D (L w)=gz at Qb|-;have HGZ:=aY CI;clear CI;have ql:=Q1.aX w1 k1;have hx:=bn.new w1 239 (nh A (F A1 (Z A.eE) c1) (F A2 (Z A.cR) c2) (F A3 (Z A.eM) c3) (F A4 (Z A.gq) c4) (F A5 (Z A.fc) c5) (F A6 (Z A.fQ) c6));have k2:=hx.cG;go_upto_region 2 with fail;have aoU:=Qb.bM k2;have pq:=k1.tr k2;generalize ay w1 _=w2 at *;generalize Gc:D (L w1)=gx at hx|-;clear ql Gc Qb;go_wp2_with fail
 apply dP (CC.aX w2 pq);rintro v7 w3⟨ke,k3⟩;have VW:=aY λW (k:K w3 W)=>cM ke.bD k
 obtain⟨A7,c7,rfl⟩:=ke.slice;have sN:=pq.tr k3;have jX:=hx.bM k3;have aoV:=aoU.bM k3;have qx:=jX.cell;have hw:=anF (Z B.st.bq) aZ;have CF3:=aY (CF.aX w3 sN);clear CC CF Q1 ke hx aoU;go_wp2_with fail
 rw[show min ((A.got:Nat):Int) ((Z B.st.bq:Nat):Int)=(C:Int) by rw[HH.aX];omega];apply dP CF3.aX;rintro v9 w4⟨cX,k4⟩;obtain⟨A9,c9,rfl⟩:=cX.slice;have kk:=k4;have O:bK (λk=>k<D (L w3)) (D (L w3)) 128 cL (uY B.st.bq H C 0 es) (F A9 (Z es) c9) w4:=by rw[ayI];exact cX
 clear CF3 qx hw k4 cX HH;go_wp2_with fail
 go_loopw [10,11,46] (fun _ _ i W=>∃j:Nat,j<=Z es/\i=G J j/\bK (fun k=>k<D (L w3)) (D (L w3)) 128 cL (uY B.st.bq H C j es) (F A9 (Z es) c9) W/\K w3 W) (fun _ _ i _=>Z es-(aO i).toNat)
 case atStart=>exact⟨0,aZ,rfl,O,kk⟩
 case round =>
  clear O kk;obtain⟨j,hj,rfl,O,kr⟩:=hrel;by_cases hlt:j<Z es
  .have cE:(j:Int)<Z es:=aZ;obtain⟨go,cap,e9,hgo⟩:∃go cap,F A9 (Z es) c9=F (I ⟨go,0,U⟩) (Z es) cap/\D (L w3)<=go:=by obtain⟨bw,hrow,-,-⟩:=O;rcases hrow.2 with ⟨-,h0⟩|⟨go,cap,cur,e,hg,-⟩;rw[IK]at h0;omega;rw[IK]at e;exact⟨go,cap,e,hg⟩
   injection e9 with e1 _ e3;subst e1 e3;have Kn:j<Z (uY B.st.bq H C j es):=by rw[IK];exact hlt
   obtain⟨A0,c0,e0,tA,-⟩:=O.bD;injection e0 with e0 _ _;subst e0;obtain⟨b1,off,VX,e9,mR,hrl,d0,d⟩:=fE tA j Kn bG;cases e9;have HS:=aY (ayJ B.st.bq H C j es hlt);have Vt:=hrl wr (K.rf wr);rw[aBY _ _ _ _ _ hlt]at Vt;have hxL:=Ht.aX _ (dJ hlt);have hxo:=HOL.aX _ hxL;generalize es[j]=x at *;obtain⟨Ev,Ew,rfl,hf,he⟩:=Vt;have HE:Hid (∀W,K wr W->fM x (av (cB x Ev Ew)) W):=aY λW k=>⟨_,_,rfl,fO _ _ _ _ hf k,cM he k⟩
   have q:∀i,i<8->wr.cell? ⟨go,j*8+i,U⟩=(cB x Ev Ew)[i]?:=λi hi=>by have:=d wr (K.rf wr) i hi;rw[mr]at this;exact this.trans aD
   have q0:wr.cell? ⟨go,j*8,U⟩=I (G J x.bA):=q 0 bG;have HQ:Hid (∀W,K wr W->∀i,i<8->W.cell? ⟨go,j*8+i,U⟩=(cB x Ev Ew)[i]?):=aY λW k i hi=>by have:=d W k i hi;rw[mr]at this;exact this.trans aD
   have vH:=bn.new wr 128 (cB x Ev Ew);have k8:=vH.cG;obtain⟨Af,cf,rfl⟩:=dX hf;obtain⟨Ae,ce,rfl⟩:=bH he;have HO:=aY O;clear d d0 hf he hrl mR tA O;go_upto_region 9 with fail;generalize wr.alloc _=w6 at *;have qU:=kr.tr k8;have k16:=sN.tr qU;have LS:C+j<=Z B.st.bq:=aZ;have hwi:=aDb C aZ;have hwj:J.wrap ((C:Int)+j)=(C:Int)+j:=OB;have C1:=aY λW k=>by have:=CS.aX W k (C+j) LS;rw[Int.natCast_add]at this;exact this
   have mF:=HSL.aX (C+j);have vE:=HSO.aX (C+j);simp only[sc]at mF;have C2:=aY λvS W (k:K w6 W) (hS:bD jZ (nK (B.st.bq.take (C+j))) vS W)=>ahd (nK (B.st.bq.take (C+j))) H x vS _ _ W hS (VW.aX W (qU.tr k)) (HE.aX W (k8.tr k)) aZ aZ vE hxo.1
   generalize nK (B.st.bq.take (C+j))=sj at *;generalize lX sj H x=y at *;have qx8:=vH.cells;clear q q0 mF vE;have qs:=aB hwi (aB hwj qx8);refine fD 11 ?_;iterate 7 refine bB.i ?_
   refine bB.c (λv W=>bD jZ sj v W) (λ_ _ _ h k=>cM h k) (λW k=>(C1.aX W (k16.tr k)).mono λe w' ⟨v,e1,h1,k1⟩=>⟨v,e1,h1.bD,k1⟩) ?_;iterate 2 refine bB.i ?_
   refine bB.d (λv W=>∃vf ve,v=av (cB y vf ve)/\Fx (λk=>k<D (L w6)) (λW=>cL.rel y (cB y vf ve).toList W) W) (λ_ _ _ ⟨vf,ve,e,h⟩ k=>⟨vf,ve,e,h.k k⟩) (λV W k hp=>(C2.aX _ W k (hp 7 bu)).mono λe w' ⟨v,e1,h1,k1⟩=>e1▸aAK h1 k.size k1) ?_;intro V W kW hA;simp only[bZ,cC,dF,bS,Nat.reduceAdd]at hA;obtain⟨f0,f1,-,-,-,-,-,-,-,-,⟨qA,pw,f10,hF⟩,-⟩:=hA;have hfn:=hF.now;obtain⟨Mr,Ms,e3,VY,VZ⟩:=hfn;cases e3;obtain⟨Dg,Dh,rfl⟩:=dX VY;obtain⟨zm,zn,rfl⟩:=bH VZ;have kF:K wr W:=k8.tr kW;have cX:=HO.aX.st kF;have hfz:∀i,W.frozen? ⟨go,i,U⟩=false:=by obtain⟨bw,hrow,-,-⟩:=cX;rw[IK]at hrow;exact (Dw hrow).2
   have hq:=HQ.aX W kF;have Hd:W.cell? ⟨go,j*8,U⟩=I (G J x.bA):=hq 0 bG;refine bN.pure (aj (I ⟨go,j*8,U⟩)) rfl (by simp[bR,aC,cP,f0,f1,aL,bT,cE,go_sem]) ?_;refine bN.skip (ei W go (j*8) [G J y.bA,G J y.br,G E y.life,G E y.eY,G J y.cl,G E y.sub,F Dg (Z y.f) Dh,F zm (Z y.es) zn]) rfl (by simp[bR,aC,cP,f10,aL,bT,hq,Hd,hfz,ei,go_sem]) ?_;refine bN.e ?_;have jg:=(HO.aX.blk go rfl).2;have sO:=k8.size;have Ig:=kW.size;have u9:bf (λk=>k=go) W (ei W go (j*8) [G J y.bA,G J y.br,G E y.life,G E y.eY,G J y.cl,G E y.sub,F Dg (Z y.f) Dh,F zm (Z y.es) zn]):=bf.sets (X:=λk=>k=go) (g:=go) rfl _ _ W;have MI:=(hF.up u9 λk e=>Tm).less (N:=λk=>k<D (L w3)\/k=go) λk Y=>by have:=qU.size;rcases Y with Y|Y <;> omega
   rw[show Z es=Z (uY B.st.bq H C j es)from (IK _ _ _ _ _).symm]at cX;have qP:=cX.abP (j:=j) Kn (y:=y) rfl MI;rw[<- HS.aX,IK]at qP;have kF9:=u9.k (qU.tr kW) λk e=>by subst e;exact hgo
   clear hq Hd hfz hF cX f0 f1 qs f10 qx8 MI u9;go_wp2;go_roundw
   case rel=>exact⟨j+1,aZ,dh,qP,kF9⟩
   case measure=>simp[aO];omega
  have cE:¬(j:Int)<Z es:=aZ;obtain rfl:j=Z es:=aZ;rw[HCA.aX _ _ rfl]at O;have hce:Z (Fo B H C es)=Z es:=by simp[Fo]
  have V0:=aY hce;have pZ:=aY (O.fx λk Y=>Y);rw[<- hce]at pZ;obtain⟨z,LD⟩:∃z,z=if ot B then B.dy else B.st.bF:=⟨_,rfl⟩
  obtain⟨Am,cm,hmt,Qk,yL,hmo⟩:∃Am cm,(ot B=aA->F Aw (Z B.dy) cw=F Am (Z z) cm)/\(ot B=az->F Aq (Z B.st.bF) cq=F Am (Z z) cm)/\(∀W,K w W->bD cL z (F Am (Z z) cm) W)/\∀x∈z,dE x=aA/\dZ x:=by cases hr:ot B;rw[hr]at LD;obtain rfl:z=B.st.bF:=LD;exact⟨Aq,cq,λh=>kP,λ_=>rfl,λW k=>(HD.aX W k).bF,HOP.aX⟩;rw[hr]at LD;obtain rfl:z=B.dy:=LD;exact⟨Aw,cw,λ_=>rfl,λh=>kP,λW k=>(HD.aX W k).dy,HOW.aX⟩
  rw[<- LD]at VV;have HMT:=aY hmt;have HMF:=aY Qk;have V1:=aY yL;have HMO:=aY hmo;have lA:=sN.tr kr;have CR7:=aY (CR.aX wr lA);clear O hce hmt Qk yL hmo LD CR HOP HOW HOL Ht;go_wp2_with fail
  apply eu CR7.aX kr;intro w7 k7 rM;have V2:=lA.tr k7;have sG:=jX.bM rM;have aFa:=aoV.bM rM;clear CR7;go_upto_if 70 with fail;go_cut [12,70]from 71 to 74 (fun v _ W=>v=F Am (Z z) cm/\w7=W)
  case first => cases hr:ot B;have e:=aY (HMF.aX hr);exact amd;have e:=aY (HMT.aX hr);exact amd
  case rest =>
   obtain⟨rfl,rfl⟩:=hcut;clear HMT HMF;have C8:=aY (CS.aX w7 V2 (Z B.st.bq) (bP _));have mF:=HSL.aX (Z B.st.bq);have vE:=HSO.aX (Z B.st.bq);rw[pL]at C8 mF vE;have AU:z.take 16=z.take (min (Z z) 16):=by rw[List.take_eq_take_iff];omega
   rw[AU]at VV;obtain⟨T,hnm⟩:∃T,T=min (Z z) 16:=⟨_,rfl⟩;rw[<- hnm]at VV;have HNM:=aY hnm;generalize nK B.st.bq=sl at *;clear AU hnm;go_wp2_with fail
   apply dP C8.aX;rintro v13 Q⟨abQ,k8⟩;have aFb:=aY λW (k:K Q W)=>cM abQ.bD k
   have pZ:=aY (pZ.aX.k (k7.tr k8));have VW:=aY λW (k:K Q W)=>VW.aX W ((rM.tr k8).tr k)
   obtain⟨A13,c13,rfl⟩:=abQ.slice;have k18:=V2.tr k8;have vH:=sG.bM k8;have aoW:=aFa.bM k8;have sQ:=rM.tr k8;have hcm:Z z<=cm:=by obtain⟨_,_,e,-,hc⟩:=V1.aX Q k18;injection e with _ _ e3;rw[e3];exact hc
   have aFc:min ((Z z:Nat):Int) 16=(T:Int):=aae;have fR:T<=Z z:=aae;have aKC:T<=16:=aae;have hnc:(T:Int)<=cm:=aZ;clear C8 abQ;go_wp2_with fail
   have kk:=K.rf Q;have O:=bK.nil (λk=>k<D (L Q)) (D (L Q)) 128 cL Q;go_loopw [14,16,84] (fun o _ i W=>∃j:Nat,j<=T/\i=G J j/\bK (fun k=>k<D (L Q)) (D (L Q)) 128 cL ((z.take j).map (lX sl H)) o W/\K Q W) (fun _ _ i _=>T-(aO i).toNat)
   case atStart=>exact⟨0,aZ,rfl,by simpa using O,kk⟩
   case round =>
    clear O kk aFc hcm hnc;obtain⟨j,hj,rfl,O,kq⟩:=hrel;by_cases yC:j<T
    .have aFd:(j:Int)<T:=aZ;obtain⟨_,_,e0,tA,-⟩:=V1.aX Q k18;injection e0 with e0 e00 e01;subst e0;clear e00 e01;have hjm:j<Z z:=aZ;obtain⟨b1,off,VX,rfl,mR,hrl,d0,d⟩:=fE tA j hjm bG;have HS:Hid ((z.take (j+1)).map (lX sl H)=(z.take j).map (lX sl H)++[lX sl H z[j]]):=aY (by rw[iY hjm,List.map_append];rfl);have hxo:=HMO.aX _ (dJ hjm);have Hh:Hid (Z ((z.take j).map (lX sl H))=j):=aY cN;generalize z[j]=x at *;obtain⟨Ev,Ew,rfl,hf,he⟩:=hrl Q (K.rf Q);have HE:Hid (∀W,K Q W->fM x (av (cB x Ev Ew)) W):=aY λW k=>⟨_,_,rfl,fO _ _ _ _ hf k,cM he k⟩
     have q:∀i,i<8->wr.cell? ⟨b1,off+j*8+i,U⟩=(cB x Ev Ew)[i]?:=λi hi=>(d wr kq i hi).trans aD
     have q0:wr.cell? ⟨b1,off+j*8,U⟩=I (G J x.bA):=d0 wr kq;have rQ:=bn.new wr 128 (cB x Ev Ew);have k9:=rQ.cG;obtain⟨Af,cf,rfl⟩:=dX hf;obtain⟨Ae,ce,rfl⟩:=bH he;obtain⟨Ao,co,rfl⟩:=O.slice;have dR:=O.blk;generalize (z.take j).map (lX sl H)=o1 at *;clear d d0 hf he hrl mR tA;go_upto_region 19 with fail;generalize wr.alloc _=w9 at *;have V3:=kq.tr k9;have qx9:=rQ.cell;have cX:=O.st k9;have C9:=aY (ahd sl H x _ _ _ w9 (aFb.aX w9 V3) (VW.aX w9 V3) (HE.aX w9 V3) aZ aZ vE hxo.1);have qv:=k9.size;have hzq:=kq.size;generalize lX sl H x=y at *;clear q q0 O rQ;go_wp2_with fail
     apply dP C9.aX;rintro v10 Bz⟨hy,VL⟩;obtain⟨qA,pw,rfl,hF⟩:=E5 hy;obtain⟨Mr,Ms,e3,VY,VZ⟩:=hF.now;cases e3;obtain⟨Dg,Dh,rfl⟩:=dX VY;obtain⟨zm,zn,rfl⟩:=bH VZ;have oN:Fx (λk=>k<D (L Q)\/aW (F Ao (Z o1) co)=I k) (λW=>cL.rel y (av (cB y (F Dg (Z y.f) Dh) (F zm (Z y.es) zn))).cells.toList W) Bz:=hF.less λk Y=>by rcases Y with Y|Y;omega;have:=(dR k Y).2;omega
     have hr:=fL.new (S:=cL) (e:=128) (v:=av (cB y (F Dg (Z y.f) Dh) (F zm (Z y.es) zn))) oN 0 (fw _);have kA:=K.new Bz (aq (cB y (F Dg (Z y.f) Dh) (F zm (Z y.es) zn)) 128);have qP:=(cX.st VL).st kA;have aoX:=(V3.tr VL).tr kA;have hzA:=aoX.size;clear C9 hF oN VY VZ hy cX qx9;go_wp2_with (at_builtin;refine j0 rfl _ _ 59 rfl _ 8 96 tH rfl rfl qP _ rfl y ?p1 ?p2 ?p3 ?_)
     case p1=>exact hr
     case p2=>have:=Hh.aX;omega
     case p3=>simpa using hzA
     intro v11 VM D8 AB I9 LC;rw[<- HS.aX]at D8;have kqF:=aoX.trans LC;clear hr qP AB I9 LC;go_wp2;go_roundw
     case rel=>exact⟨j+1,aZ,dh,D8,kqF⟩
     case measure=>simp[aO];omega
    have aFd:¬(j:Int)<T:=aZ;obtain rfl:j=T:=aZ;obtain⟨Ao,co,rfl⟩:=O.slice;have HPR:=aY (O.fx λk Y=>Y);have Gi:=k18.tr kq;have rQ:=vH.bM kq;have aFe:=aoW.bM kq;have qw:=λW (k:K wr W)=>q W (Gi.tr k)
    have qx:=rQ.cells;have aFf:=aoV.lt;have h38:=sQ.size;have h8r:=kq.size;have aFg:=aY (pZ.aX.k kq);clear O pZ aoW vH rQ;go_upto_region 21 with fail;have qs:=aB qw qx;refine fD 18 ?_;iterate 4 refine bB.i ?_
    refine bB.c (λv W=>bD dQ kn v W) (λ_ _ _ h k=>cM h k) (λW k=>(CK.aX W (Gi.tr k)).mono λe w' ⟨v,e1,h1,k1⟩=>⟨v,e1,h1.bD,k1⟩) ?_;iterate 2 refine bB.i ?_
    refine bB.d (λv W=>Fx (λk=>k<D (L wr)) (λW=>bD dQ (yw kn A.cR) v W) W) (λ_ _ _ h k=>h.k k) (λV W k hp=>(awR kn A.cR _ _ W (hp 4 bu) (by obtain⟨_,_,_,_,_,_,e,h⟩:=HM.aX W (Gi.tr k);cases e;exact h.2.1) tv aZ).mono λe w' ⟨v,e1,h1,k1⟩=>⟨v,e1,(h1.fx λ_ h=>h).less λi hi=>cZ hi k.size,k1⟩) ?_;iterate 9 refine bB.i ?_
    refine bB.c (λv W=>Fx (λk=>k<D (L wr)) (λW=>bD dQ (yr B.st B.dy A) v W) W) (λ_ _ _ h k=>h.k k) (λW k=>(awE B.st B.dy A _ _ _ _ _ W ⟨_,_,_,rfl,(HD.aX W (Gi.tr k)).bq,(HD.aX W (Gi.tr k)).bF,(HD.aX W (Gi.tr k)).ab⟩ (HD.aX W (Gi.tr k)).dy (HM.aX W (Gi.tr k)) ⟨aZ,aZ⟩ aZ aZ).mono λe w' ⟨v,e1,h1,k1⟩=>⟨v,e1,(h1.fx λ_ h=>h).less λi hi=>cZ hi k.size,k1⟩) ?_;intro V W kW hA;simp only[bZ,cC,dF,bS,Nat.reduceAdd]at hA;obtain⟨f0,f1,f2,-,-,-,-,f7,-,-,-,-,-,-,-,-,-,f17,-⟩:=id hA;obtain⟨At,ct,et⟩:=bH f7.now;obtain⟨Ae,ce,ee⟩:=bH f17.now;rw[et]at f7;rw[ee]at f17;have Ig:=aFe.bM kW;have qz:=Ig.cell;have zz:=Ig.frozen;have Da:=aY (HPR.aX.k kW);have HE9:=aY (aFg.aX.k kW);have F7:=aY f7;have F17:=aY f17;clear f7 f17 hA qs qw qx;refine bN.pure (av #[G J 2,G E C,F U 0 0,F U 0 0,F A9 (Z es) c9,F Ao (Z ((z.take j).map (lX sl H))) co,F At (Z (yw kn A.cR)) ct,F Ae (Z (yr B.st B.dy A)) ce]) rfl (by simp[bR,aC,f0,f1,f2,et,ee,aL,bT,go_sem]) ?_;refine bN.skip (ei W gz 0 [G J 2,G E C,F U 0 0,F U 0 0,F A9 (Z es) c9,F Ao (Z ((z.take j).map (lX sl H))) co,F At (Z (yw kn A.cR)) ct,F Ae (Z (yr B.st B.dy A)) ce]) rfl (by simp[bR,aC,cP,aL,bT,qz,zz,ei,go_sem]) ?_;refine bN.e ?_;have xP:=DD (us:=[G J 2,G E C,F U 0 0,F U 0 0,F A9 (Z es) c9,F Ao (Z ((z.take j).map (lX sl H))) co,F At (Z (yw kn A.cR)) ct,F Ae (Z (yr B.st B.dy A)) ce]) Ig rfl;have u9:=bf.sets (X:=λk=>k=gz) (g:=gz) rfl ([G J 2,G E C,F U 0 0,F U 0 0,F A9 (Z es) c9,F Ao (Z ((z.take j).map (lX sl H))) co,F At (Z (yw kn A.cR)) ct,F Ae (Z (yr B.st B.dy A)) ce]) 0 W;have MP:=aY (show nU R (av #[G J 2,G E C,F U 0 0,F U 0 0,F A9 (Z es) c9,F Ao (Z ((z.take j).map (lX sl H))) co,F At (Z (yw kn A.cR)) ct,F Ae (Z (yr B.st B.dy A)) ce]) (ei W gz 0 ([G J 2,G E C,F U 0 0,F U 0 0,F A9 (Z es) c9,F Ao (Z ((z.take j).map (lX sl H))) co,F At (Z (yw kn A.cR)) ct,F Ae (Z (yr B.st B.dy A)) ce])) by
     have g1:=(HE9.aX.up u9 λk e=>by subst e;exact aFf).now;rw[V0.aX]at g1;rw[VV.aX];exact⟨_,_,_,_,_,_,rfl,iJ _ _,iJ _ _,g1,(Da.aX.up u9 λk e=>Tm).now,(F7.aX.up u9 λk e=>Tm).now,(F17.aX.up u9 λk e=>Tm).now⟩)
    have HK:=aY (u9.k (Gi.tr kW) λk e=>by have:=HGZ.aX;omega);clear u9 Ig qz zz Da HE9 F7 F17 f0 f1 f2 et ee;generalize ei W gz 0 _=W9 at *;have e9:=xP.cell;go_wp2;refine aM (v:=av #[G J 2,G E C,F U 0 0,F U 0 0,F A9 (Z es) c9,F Ao (Z ((z.take j).map (lX sl H))) co,F At (Z (yw kn A.cR)) ct,F Ae (Z (yr B.st B.dy A)) ce]) (by simp[results,results166,go_sem,e9]) rfl ?_;exact⟨_,rfl,MP.aX,HK.aX⟩
theorem NH{a}(h:ew a):Z (iG a)<=30000:=ame
theorem awW{a}(h:ew a):Z (iG a)<=27:=ame
theorem XF{v}(h:ew v.id):Z (nJ v)<=30000:=by grind [awW,fu,nJ,fg]
theorem agn{x}(h:dZ x):Z (rW x)<=20000:=by grind [rW,dE,Nz]
theorem IE{x}(h:dZ x):Z (jd x)<=30000:=by grind [agn,fu,rW,jd,jL,fg]
theorem NQ{α:Type}(enc:α->List UInt8) B:∀(l:List α),(∀x∈l,Z (enc x)<=B)->Z (l.flatMap enc)<=B*Z l
 | [],_=>bu
 | x :: l,h=>by have:=h x bu;have:=NQ enc B l (λy hy=>h y K6);simp only[yp,fg,gH,Nat.mul_succ];omega
theorem afN l v a w(h:sl l v w)(hl:Z l<=900000000)(hf:ew a) :aK aR 225 #[v,av (eI a)] w λe C=>∃M,e=ak M/\Own C (D (L w)) 5 M (l++iG a)/\K w C:=by
 obtain⟨A,c,rfl,hR⟩:=h;obtain⟨b,j,t⟩:=a;obtain⟨W,z,H⟩:=hf;simp only at W z H;have:=fu (cO b) (jm b);have:=fu j z;have Q:=bn.new w 42 #[G J b,G E j,G E t];have k1:=Q.cG;have S:=(hR.below k1 (bP _)).more k1.size;go_in;go_upto_region 1 with fail;generalize w.alloc _=B at *;have:=Q.cells;have N:=K.rf B;go_wp2_with fail
 rw[Gw b];apply dP (zD A _ c l (cO b) (jm b) B _ S (bP _) aZ);rintro v2 w2⟨Y,y⟩;obtain⟨A2,c2,rfl,AO⟩:=(gS Y);have:Z (l++bO (cO b))<=900000009:=cN;generalize hm2:Z (l++bO (cO b))=R at *;go_wp2_with fail
 apply dP (zD A2 R c2 _ j z w2 _ AO (bP _) aZ);rintro v3 V⟨jk,k3⟩;replace y:=y.tr k3;obtain⟨A3,c3,rfl,AK⟩:=(gS jk);have:Z (l++bO (cO b)++bO j)<=900000018:=cN;generalize AQ:Z (l++bO (cO b)++bO j)=T at *;go_wp2_with fail
 apply dP (zD A3 T c3 _ t H V _ AK (bP _) aZ);rintro v4 w4⟨iA,k4⟩;have O:=pF (k1.tr y).size iA;have X:l++bO (cO b)++bO j++bO t=l++iG (b,j,t):=by simp[iG]
 rw[X]at O;have HS:=aY O;have N:=k1.tr (y.tr k4);go_wp2;go_ret;exact⟨_,rfl,HS.aX,N⟩
theorem ato l v x w(h:sl l v w)(hl:Z l<=800000000)(N:ew x.id) :aK aR 221 #[v,av (jA x)] w λe C=>∃H,e=ak H/\Own C (D (L w)) 5 H (l++nJ x)/\K w C:=by
 have B:=bn.new w 300 (jA x);have k1:=B.cG;have V:=qK _ _ _ _ h k1;have O:=aY (afN l v x.id _ V aZ N);have M:=NH N;obtain⟨A,c,rfl,-⟩:=h;obtain⟨a,y⟩:=x;have M:Z (iG a)<=30000:=M;go_in;go_upto_region 1 with fail;generalize w.alloc _=Q at *;generalize D (L w)=g at B|-;have:=B.cells;have:=K.rf Q;cases y
 .go_wp2_with fail
  apply dP O.aX;rintro X w2⟨j,k2⟩;have t:=xY 0 (gS j) aZ bL;rw[show ((0:Nat):Int)=0 from rfl]at t;replace t:=aY t;obtain⟨Y,c2,rfl,-⟩:=gS j;generalize W:Z (l++iG a)=R at *;go_wp2_with fail
  apply dP t.aX;rintro S T⟨z,k3⟩;have j:=pF (k1.tr k2).size z;rw[show l++iG a++bO 0=l++nJ ⟨a,az⟩from by simp[nJ]]at j;have HS:=aY j;exact aaf
 go_wp2_with fail
 apply dP O.aX;rintro X w2⟨j,k2⟩;have t:=xY 1 (gS j) aZ bL;rw[show ((1:Nat):Int)=1 from rfl]at t;replace t:=aY t;obtain⟨Y,c2,rfl,-⟩:=gS j;generalize W:Z (l++iG a)=R at *;go_wp2_with fail
 apply dP t.aX;rintro S T⟨z,k3⟩;have j:=pF (k1.tr k2).size z;rw[show l++iG a++bO 1=l++nJ ⟨a,aA⟩from by simp[nJ]]at j;have HS:=aY j;exact aaf
theorem asQ l v x u w(h:sl l v w)(S:fM x u w)(hl:Z l<=800000000)(B:dZ x) :aK aR 223 #[v,u] w λe t=>∃y,e=ak y/\Own t (D (L w)) 5 y (l++jd x)/\K w t:=by
 obtain⟨vf,ve,rfl,z,C⟩:=S;obtain⟨Q,O,rfl⟩:=dX z;obtain⟨T,V,rfl⟩:=bH C;have k1:=K.new w (aq (cB x (F Q (Z x.f) O) (F T (Z x.es) V)) 128);have R:=aY (WG x _ _ ⟨_,_,rfl,fO _ _ _ _ z k1,cM C k1⟩ B);have N:=aY λW (H:K w W)=>qK _ _ _ _ h H
 have:=agn B;obtain⟨A,c,rfl,-⟩:=h;go_in;go_wp2_with fail
 generalize w.alloc _=Y at *;refine R.aX.mono ?_;rintro e X⟨v2,rfl,j,k2⟩;have M:=aY (R9 (N.aX X (k1.tr k2)) (gS j) aZ aZ);obtain⟨A2,c2,rfl,-⟩:=gS j;go_wp2_with fail
 refine M.aX.mono ?_;rintro e w3⟨v3,rfl,j,k3⟩;have HS:=aY (pF (k1.tr k2).size j);exact aaf
theorem aue b l v u w(hb:sl b v w)(h:bD qV l u w)(dR:Z b<=500000000)(aoY:Z l<=16)(hfit:∀s∈l,ew s.id) :aK aR 220 #[v,u,.func (Fn.func 221) #[] #[]] w λe H=>∃M,e=ak M/\Own H (D (L w)) 5 M (b++ik nJ l)/\K w H:=by
 obtain⟨A,c,rfl,hl,hc⟩:=h;have O:=aY hfit;have X:=aY (xY (Z l) hb aZ aZ);obtain⟨Ab,cb,rfl,-⟩:=hb;have hpl:=fu (Z l) aZ;have hu:E.wrap (Z l:Int)=Z l:=aag;go_in;go_wp2_with fail
 apply dP X.aX;rintro v1 w1⟨ho,B⟩;have Bm:=aY ho;go_wp2_with fail
 go_loopw [0,8,16] (fun o _ i wr=>∃j:Nat,j<=Z l/\i=G J j/\Hid (Own wr (D (L w)) 5 o (b++bO (Z l)++(l.take j).flatMap nJ))/\K w wr) (fun _ _ i _=>Z l-(aO i).toNat)
 case atStart=>exact⟨0,aZ,rfl,aY aah,B⟩
 case round =>
  obtain⟨j,hj,rfl,Q,kr⟩:=hrel;by_cases hlt:j<Z l
  .have Y:(j:Int)<Z l:=aZ;obtain⟨C,T,cs,rfl,hcl,hrl,S,d⟩:=fE hl j hlt bG;have HS:Hid (b++bO (Z l)++(l.take (j+1)).flatMap nJ=b++bO (Z l)++(l.take j).flatMap nJ++nJ l[j]):=aY aai;have z:=O.aX _ (dJ hlt);have hbj:Z (b++bO (Z l)++(l.take j).flatMap nJ)<=600000000:=by have:=NQ nJ 30000 (l.take j) (λx t=>by have z:=O.aX x (oW t);exact XF z);exact aaj
   generalize l[j]=x at *;obtain rfl:=hrl w (K.rf w);have S:∀W,K wr W->W.cell? ⟨C,T+j*4,U⟩=I (G J x.id.1):=λW y=>S W (kr.tr y)
   have d:∀W,K wr W->∀i,i<4->W.cell? ⟨C,T+j*4+i,U⟩=(jA x)[i]?:=λW y i hi=>(d W (kr.tr y) i hi).trans aD
   have B:=K.rf wr;have kw:=K.rf wr;have t:=bn.new wr 300 (jA x);have N:=t.cG;go_upto_region 5 with fail;have xN:=kr.tr N;generalize wr.alloc _=R at *;generalize D (L wr)=gx at *;have q:=t.cells;have B:=K.rf R;go_wp2_with fail
   apply dP (ato _ _ x R (qK _ _ _ _ (gS Q.aX) (kw.tr N)) aZ z);exact aak
  have Y:¬(j:Int)<Z l:=aZ;have V:=Q.aX;rw[jq aZ,gA]at V;have HS:=aY (show Own wr (D (L w)) 5 u0 (b++ik nJ l)from V);exact aal
theorem WL b l v u w(hb:sl b v w)(h:bD cL l u w)(dR:Z b<=500000000)(aoY:Z l<=16)(hfit:∀s∈l,dZ s) :aK aR 222 #[v,u,.func (Fn.func 223) #[] #[]] w λe H=>∃M,e=ak M/\Own H (D (L w)) 5 M (b++ik jd l)/\K w H:=by
 obtain⟨A,c,rfl,hl,hc⟩:=h;have O:=aY hfit;have C0:=aY (xY (Z l) hb aZ aZ);obtain⟨Ab,cb,rfl,-⟩:=hb;have hpl:=fu (Z l) aZ;have hu:E.wrap (Z l:Int)=Z l:=aag;go_in;go_wp2_with fail
 apply dP C0.aX;rintro v1 w1⟨ho,B⟩;have Bm:=aY ho;go_wp2_with fail
 go_loopw [0,8,16] (fun o _ i wr=>∃j:Nat,j<=Z l/\i=G J j/\Hid (Own wr (D (L w)) 5 o (b++bO (Z l)++(l.take j).flatMap jd))/\K w wr) (fun _ _ i _=>Z l-(aO i).toNat)
 case atStart=>exact⟨0,aZ,rfl,aY aah,B⟩
 case round =>
  obtain⟨j,hj,rfl,Q,kr⟩:=hrel;by_cases hlt:j<Z l
  .have cE:(j:Int)<Z l:=aZ;obtain⟨C,V,cs,rfl,hcl,hrl,S,d⟩:=fE hl j hlt bG;have HS:Hid (b++bO (Z l)++(l.take (j+1)).flatMap jd=b++bO (Z l)++(l.take j).flatMap jd++jd l[j]):=aY aai;have z:=O.aX _ (dJ hlt);have hbj:Z (b++bO (Z l)++(l.take j).flatMap jd)<=600000000:=by have:=NQ jd 30000 (l.take j) (λx t=>by have z:=O.aX x (oW t);exact IE z);exact aaj
   generalize l[j]=x at *;obtain⟨vf,ve,rfl,T,he⟩:=hrl w (K.rf w);obtain⟨Y,X,rfl⟩:=dX T;obtain⟨Ae,ce,rfl⟩:=bH he;have S:∀W,K wr W->W.cell? ⟨C,V+j*8,U⟩=I (G J x.bA):=λW y=>S W (kr.tr y)
   have d:∀W,K wr W->∀i,i<8->W.cell? ⟨C,V+j*8+i,U⟩=(cB x (F Y (Z x.f) X) (F Ae (Z x.es) ce))[i]?:=λW y i hi=>(d W (kr.tr y) i hi).trans aD
   have B:=K.rf wr;have kw:=K.rf wr;have t:=bn.new wr 128 (cB x (F Y (Z x.f) X) (F Ae (Z x.es) ce));have N:=t.cG;go_upto_region 5 with fail;have xN:=kr.tr N;generalize wr.alloc _=R at *;generalize D (L wr)=gx at *;have q:=t.cells;have B:=K.rf R;go_wp2_with fail
   apply dP (asQ _ _ x _ R (qK _ _ _ _ (gS Q.aX) (kw.tr N)) ⟨_,_,rfl,fO _ _ _ _ T xN,cM he xN⟩ aZ z);exact aak
  have cE:¬(j:Int)<Z l:=aZ;have hs:=Q.aX;rw[jq aZ,gA]at hs;have HS:=aY (show Own wr (D (L w)) 5 u0 (b++ik jd l)from hs);exact aal
theorem ago b l v u w(hb:sl b v w)(h:bD dQ l u w)(dR:Z b<=500000000)(aoY:Z l<=16)(hfit:∀s∈l,ew s) :aK aR 224 #[v,u,.func (Fn.func 225) #[] #[]] w λe H=>∃M,e=ak M/\Own H (D (L w)) 5 M (b++ik iG l)/\K w H:=by
 obtain⟨A,c,rfl,hl,hc⟩:=h;have O:=aY hfit;have X:=aY (xY (Z l) hb aZ aZ);obtain⟨Ab,cb,rfl,-⟩:=hb;have hpl:=fu (Z l) aZ;have hu:E.wrap (Z l:Int)=Z l:=aag;go_in;go_wp2_with fail
 apply dP X.aX;rintro v1 w1⟨ho,B⟩;have Bm:=aY ho;go_wp2_with fail
 go_loopw [0,8,16] (fun o _ i wr=>∃j:Nat,j<=Z l/\i=G J j/\Hid (Own wr (D (L w)) 5 o (b++bO (Z l)++(l.take j).flatMap iG))/\K w wr) (fun _ _ i _=>Z l-(aO i).toNat)
 case atStart=>exact⟨0,aZ,rfl,aY aah,B⟩
 case round =>
  obtain⟨j,hj,rfl,Q,kr⟩:=hrel;by_cases hlt:j<Z l
  .have Y:(j:Int)<Z l:=aZ;obtain⟨C,T,cs,rfl,hcl,hrl,S,d⟩:=fE hl j hlt bG;have HS:Hid (b++bO (Z l)++(l.take (j+1)).flatMap iG=b++bO (Z l)++(l.take j).flatMap iG++iG l[j]):=aY aai;have z:=O.aX _ (dJ hlt);have hbj:Z (b++bO (Z l)++(l.take j).flatMap iG)<=600000000:=by have:=NQ iG 30000 (l.take j) (λx t=>by have z:=O.aX x (oW t);exact NH z);exact aaj
   generalize l[j]=x at *;obtain rfl:=hrl w (K.rf w);have S:∀W,K wr W->W.cell? ⟨C,T+j*3,U⟩=I (G J x.1):=λW y=>S W (kr.tr y)
   have d:∀W,K wr W->∀i,i<3->W.cell? ⟨C,T+j*3+i,U⟩=(eI x)[i]?:=λW y i hi=>(d W (kr.tr y) i hi).trans aD
   have B:=K.rf wr;have kw:=K.rf wr;have t:=bn.new wr 42 (eI x);have N:=t.cG;go_upto_region 5 with fail;have xN:=kr.tr N;generalize wr.alloc _=R at *;generalize D (L wr)=gx at *;have q:=t.cells;have B:=K.rf R;go_wp2_with fail
   apply dP (afN _ _ x R (qK _ _ _ _ (gS Q.aX) (kw.tr N)) aZ z);exact aak
  have Y:¬(j:Int)<Z l:=aZ;have V:=Q.aX;rw[jq aZ,gA]at V;have HS:=aY (show Own wr (D (L w)) 5 u0 (b++ik iG l)from V);exact aal
theorem BM{α} enc(l:List α)(h:∀x∈l,Z (enc x)<=30000)(t:Z l<=16):Z (ik enc l)<=480009:=by have:=NQ enc 30000 l h;have:=fu (Z l) aZ;unfold ik;simp only[fg];omega
theorem aAL{m}(h:fT m=aA)(C:pU m):Z (jO m)<=2000000:=by obtain⟨-,H,z,S,B,P,t⟩:=NC h;obtain⟨-,y,A,O,R,Q,M,N⟩:=C;have:=BM nJ m.eE (λx j=>XF (A x j)) H.1;have:=BM jd m.cR (λx j=>IE (O x j)) z.1;have:=BM jd m.eM (λx j=>IE (R x j)) S.1;have:=BM jd m.gq (λx j=>IE (Q x j)) B.1;have:=BM iG m.fc (λx j=>NH (M x j)) P.1;have:=BM iG m.fQ (λx j=>NH (N x j)) t.1;have:=fu (cO m.bA) (jm _);have:=fu m.got y;unfold jO;grind
theorem asR m v w(h:nU m v w)(hf:pU m) :aK aR 160 #[v] w λe w'=>∃v',e=ak (au #[v',G J (ku m)])/\Own w' (D (L w)) 5 v' (OZ m)/\K w w':=by
 have C0:=aY λW (j:K w W)=>ae6 m v W (aaW h j)
 obtain⟨v1,v2,v3,v4,v5,v6,rfl,h1,h2,h3,h4,h5,h6⟩:=h;have L1:=aY λW (j:K w W)=>cM h1 j
 have L2:=aY λW (j:K w W)=>cM h2 j
 have L3:=aY λW (j:K w W)=>cM h3 j
 have L4:=aY λW (j:K w W)=>cM h4 j
 have L5:=aY λW (j:K w W)=>cM h5 j
 have L6:=aY λW (j:K w W)=>cM h6 j
 obtain⟨A1,c1,rfl⟩:=bH h1;obtain⟨A2,c2,rfl⟩:=bH h2;obtain⟨A3,c3,rfl⟩:=bH h3;obtain⟨A4,c4,rfl⟩:=bH h4;obtain⟨A5,c5,rfl⟩:=bH h5;obtain⟨A6,c6,rfl⟩:=bH h6;have y:=bn.new w 239 (nh m (F A1 (Z m.eE) c1) (F A2 (Z m.cR) c2) (F A3 (Z m.eM) c3) (F A4 (Z m.gq) c4) (F A5 (Z m.fc) c5) (F A6 (Z m.fQ) c6));have k1:=y.cG;have t:=aY hf;have QS:Hid (ku m=if fT m then 0 else 130):=aY rfl;have HRM:Hid (OZ m=if fT m then jO m else []):=aY rfl;generalize ku m=CK at *;generalize OZ m=S at *;go_in;go_upto_region 1 with fail;generalize w.alloc _=w1 at *;have qx:=y.cells;have A:=K.rf w1;generalize D (L w)=g at *;go_wp2_with fail
 apply eu (C0.aX w1 k1) k1;intro w2 k2 pq;cases hok:fT m
 .obtain rfl:CK=130:=by rw[QS.aX,hok];rfl
  obtain rfl:S=[]:=by rw[HRM.aX,hok];rfl
  go_wp2;go_ret2;exact⟨_,rfl,oV _ _ _ _,pq⟩
 obtain rfl:CK=0:=by rw[QS.aX,hok];rfl
 have HR:Hid (S=jO m):=aY (by rw[HRM.aX,hok];rfl);have z:=aY (NC hok);have q2:=λW (j:K w2 W)=>qx W (k2.tr j)
 have A:=K.rf w2;have:=fu (cO m.bA) (jm _);have:=fu m.got t.aX.2.1;go_upto_region 4 with fail;have qs:=aB q2 Gw;refine fD 7 ?_;iterate 3 refine bB.i ?_
 refine bB.c (sl (bO (cO m.bA))) (qK _) (λW _=>(xY (cO m.bA) (aaV _) (jm _) bu).mono λe w9 ⟨v9,H,ho,k9⟩=>⟨v9,H,gS (bZ (bO _)▸ho),k9⟩) ?_;iterate 2 refine bB.i ?_
 refine bB.op (sl (bO (cO m.bA)++bO m.got)) (qK _) (λV W j hp=>?_) ?_
 .simp only[dN,bZ,cC,dK,dL,bS]at hp;simp[dI,bR,aC,hp,fk,aL,bT,go_sem];exact (xY m.got hp.1 t.aX.2.1 aZ).mono λe w9 ⟨v9,H,ho,k9⟩=>⟨v9,H,gS ho,k9⟩
 intro V W j hA;simp only[bZ,cC,dF,bS,Nat.reduceAdd]at hA;refine bN.p (bN.h ?_);have h7:=hA.2.2.2.2.2.2.1;generalize V 6=v7 at *;have R:=h7;have X:=pq.tr j;have kv0:=j;generalize W=C at *;have:Z (bO (cO m.bA)++bO m.got)<=18:=bL;by_cases iN:m.bA=1
 .have A:=K.rf C;have C1:=aY (aue _ m.eE _ _ C R (L1.aX _ X) aZ z.aX.2.1.1 t.aX.2.2.1);have lM:=BM nJ m.eE (λx y=>XF (t.aX.2.2.1 x y)) z.aX.2.1.1;have b1:Z (bO (cO m.bA)++bO m.got++ik nJ m.eE)<=480027:=bL;obtain⟨B0,e0,rfl,-⟩:=R;generalize Z (bO (cO m.bA)++bO m.got)=n0 at *;have A:=K.rf C;go_wp2_with fail
  apply tY C1.aX X;intro v19 O M Y B;have kv1:=kv0.tr Y;have C2:=aY (WL _ m.cR _ _ O (gS M) (L2.aX _ B) aZ z.aX.2.2.1.1 t.aX.2.2.2.1);have gK:=BM jd m.cR (λx y=>IE (t.aX.2.2.2.1 x y)) z.aX.2.2.1.1;have b2:Z (bO (cO m.bA)++bO m.got++ik nJ m.eE++ik jd m.cR)<=960036:=bL;obtain⟨B1,H,rfl,-⟩:=gS M;generalize Z (bO (cO m.bA)++bO m.got++ik nJ m.eE)=n1 at *;have A:=K.rf O;go_wp2_with fail
  apply tY C2.aX B;intro v29 N T j2 Q;have kv2:=kv1.tr j2;have HS:=aY (show Own N (D (L w)) 5 v29 S from by rw[HR.aX];have h:=pF B.size T;simp only[jO,gA,ite_true,iN]at h|-;exact h);go_wp2;go_ret2;exact⟨_,rfl,HS.aX,Q⟩
 have A:=K.rf C;have C1:=aY (WL _ m.eM _ _ C R (L3.aX _ X) aZ z.aX.2.2.2.1.1 t.aX.2.2.2.2.1);have lM:=BM jd m.eM (λx y=>IE (t.aX.2.2.2.2.1 x y)) z.aX.2.2.2.1.1;have b1:Z (bO (cO m.bA)++bO m.got++ik jd m.eM)<=480027:=bL;obtain⟨B0,e0,rfl,-⟩:=R;generalize Z (bO (cO m.bA)++bO m.got)=n0 at *;have A:=K.rf C;go_wp2_with fail
 apply tY C1.aX X;intro v19 O M Y B;have kv1:=kv0.tr Y;have C2:=aY (WL _ m.gq _ _ O (gS M) (L4.aX _ B) aZ z.aX.2.2.2.2.1.1 t.aX.2.2.2.2.2.1);have gK:=BM jd m.gq (λx y=>IE (t.aX.2.2.2.2.2.1 x y)) z.aX.2.2.2.2.1.1;have b2:Z (bO (cO m.bA)++bO m.got++ik jd m.eM++ik jd m.gq)<=960036:=bL;obtain⟨B1,H,rfl,-⟩:=gS M;generalize Z (bO (cO m.bA)++bO m.got++ik jd m.eM)=n1 at *;have A:=K.rf O;go_wp2_with fail
 apply tY C2.aX B;intro v29 N T j2 Q;have kv2:=kv1.tr j2;have C3:=aY (ago _ m.fc _ _ N (gS T) (L5.aX _ Q) aZ z.aX.2.2.2.2.2.1.1 t.aX.2.2.2.2.2.2.1);have:=BM iG m.fc (λx y=>NH (t.aX.2.2.2.2.2.2.1 x y)) z.aX.2.2.2.2.2.1.1;have:Z (bO (cO m.bA)++bO m.got++ik jd m.eM++ik jd m.gq++ik iG m.fc)<=1440045:=bL;obtain⟨B2,e2,rfl,-⟩:=gS T;generalize Z (bO (cO m.bA)++bO m.got++ik jd m.eM++ik jd m.gq)=n2 at *;have q2:=λW (j:K N W)=>q2 W (kv2.tr j)
 have A:=K.rf N;go_wp2_with fail
 apply tY C3.aX Q;intro v39 W3 jY j3 kw3;have:=kv2.tr j3;have C4:=aY (ago _ m.fQ _ _ W3 (gS jY) (L6.aX _ kw3) aZ z.aX.2.2.2.2.2.2.1 t.aX.2.2.2.2.2.2.2);obtain⟨B3,e3,rfl,-⟩:=gS jY;generalize Z (bO (cO m.bA)++bO m.got++ik jd m.eM++ik jd m.gq++ik iG m.fc)=n3 at *;have A:=K.rf W3;go_wp2_with fail
 apply tY C4.aX kw3;intro v49 W4 hs4 j4 kw4;have HS:=aY (show Own W4 (D (L w)) 5 v49 S from by rw[HR.aX];have h:=pF kw3.size hs4;simp only[jO,gA,ite_false,iN]at h|-;exact h);go_wp2;go_ret2;exact⟨_,rfl,HS.aX,kw4⟩
def Eb:fy (Int×List UInt8) where
 size:=2
 rel x cs w:=∃v,cs=[G J x.1,v]/\sl x.2 v w
 len:=by rintro _ _ _⟨v,rfl,_⟩;rfl
 one:=by rintro x _ _⟨v,rfl,A,c,rfl,_⟩ u j;simp at j;rcases j with rfl|rfl <;> rfl
 st:=by rintro _ _ _ _⟨v,rfl,h⟩ k;exact⟨v,rfl,qK _ _ _ _ h k⟩
theorem aBZ:(prog.info? 193).map (λi=>(i.zero,i.size,i.bytes))=I (I (av #[G J 0,F U 0 0]),2,32):=by rfl
theorem aFh:gQ aR 190 193 (av #[G J 0,F U 0 0]) 2 32:=⟨underlying190,aBZ,rfl,bG⟩
def xu(j:Int)(m:ig):List (Int×List UInt8):=if fT m then [(j,jO m)]else []
theorem afO{base gb outs o w} t m vm(hb:bn w gb 190 #[o])(H:bK (λk=>k<base) base 193 Eb outs o w)(hm:nU m vm w)(hfit:pU m)(hgb:gb<base)(hz:base<=D (L w))(hn:Z outs<=1000) :aK aR 159 #[G J t,vm,aj (I ⟨gb,0,U⟩)] w λe w'=>e=ak (au #[])/\∃V,bn w' gb 190 #[V]/\bK (λk=>k<base) base 193 Eb (outs++xu t m) V w'/\bf (λk=>k=gb\/aW o=I k) w w'/\∀k,aW V=I k->aW o=I k\/D (L w)<=k:=by
 have HR:Hid (xu t m=if fT m then [(t,jO m)]else []):=aY rfl;have HC:Hid (ku m=if fT m then 0 else 130):=aY rfl;have HM:Hid (OZ m=if fT m then jO m else []):=aY rfl;have C1:=aY λW (k:K w W)=>asR m vm W (aaW hm k) hfit
 obtain⟨v1,v2,v3,v4,v5,v6,rfl,h1,h2,h3,h4,h5,h6⟩:=hm;obtain⟨A1,c1,rfl⟩:=bH h1;obtain⟨A2,c2,rfl⟩:=bH h2;obtain⟨A3,c3,rfl⟩:=bH h3;obtain⟨A4,c4,rfl⟩:=bH h4;obtain⟨A5,c5,rfl⟩:=bH h5;obtain⟨A6,c6,rfl⟩:=bH h6;have y:=bn.new w 239 (nh m (F A1 (Z m.eE) c1) (F A2 (Z m.cR) c2) (F A3 (Z m.eM) c3) (F A4 (Z m.gq) c4) (F A5 (Z m.fc) c5) (F A6 (Z m.fQ) c6));have k1:=y.cG;obtain⟨z,A,rfl⟩:=H.slice;generalize xu t m=SM at *;generalize ku m=CK at *;generalize OZ m=EM at *;go_in;go_upto_region 1 with fail;generalize w.alloc _=w1 at *;have:=y.cell;have C2:=aY (C1.aX w1 k1);go_wp2_with fail
 refine C2.aX.mono ?_;rintro e w2⟨v7,rfl,M,k2⟩;have B:=k1.tr k2;have fq:=H.st B;have T:=hb.bM B;have:=k1.size;have:=B.size;have dR:=H.blk;cases j:fT m
 .obtain rfl:CK=130:=by rw[HC.aX,j];rfl
  have R:Hid (SM=[]):=aY (by rw[HR.aX,j];rfl);go_wp2;go_end0;exact⟨rfl,_,T,by rw[R.aX,List.append_nil];exact fq,bf.cz B _,λ_ h=>aI h⟩
 obtain rfl:CK=0:=by rw[HC.aX,j];rfl
 obtain rfl:EM=jO m:=by rw[HM.aX,j];rfl
 have R:Hid (SM=[(t,jO m)]):=aY (by rw[HR.aX,j];rfl);have:=T.cell;have oN:Fx (λk=>k<base\/aW (F z (Z outs) A)=I k) (λW=>Eb.rel (t,jO m) (av #[G J t,v7]).cells.toList W) w2:=λW u=>⟨v7,rfl,gS (kj M u λk j y=>by
  have:=(M.lt k j).1;rcases y with y|y;omega;have:=(dR k y).2;omega)⟩
 obtain⟨O,c7,rfl,-⟩:=gS M;have hr:=fL.new (S:=Eb) (e:=193) (v:=av #[G J t,F O (Z (jO m)) c7]) oN 0 (fw _);have kA:=K.new w2 (aq #[G J t,F O (Z (jO m)) c7] 193);have dS:=fq.st kA;have dB:=T.bM kA;have sN:=B.tr kA;have mg:=sN.size;go_wp2_with (at_builtin;refine j0 rfl _ _ 190 rfl _ 2 32 aFh rfl rfl dS _ rfl (t,jO m) ?p1 ?p2 ?p3 ?_)
 case p1=>exact hr
 case p2=>omega
 case p3=>exact cQ hz mg
 intro v9 w9 cX dW gD cV;have u9:bf (λk=>k=gb\/aW (F z (Z outs) A)=I k) (aU w2 (aq #[G J t,F O (Z (jO m)) c7] 193)) w9:=bf.gy dW λk j=>aJ j
 have hat:∀k,aW v9=I k->aW (F z (Z outs) A)=I k\/D (L w)<=k:=λk j=>by rcases gD with e|e;exact aI (e▸j);rw[e]at j;injection j with j;exact aJ aZ
 have wI:=aY hat;have:=λk j=>(cX.blk k j).1
 have N:=dB.cF (bf.gy (X:=λk=>aW (F z (Z outs) A)=I k) dW λk j=>j) λj=>by have:=(dR gb j).1;omega
 obtain⟨Q,C,rfl⟩:=cX.slice;generalize Z (outs++[(t,jO m)])=Y at *;have:=N.cell;have:=N.frozen;have hbF:=N.cH 0 (F Q Y C);have uF:=((bf.cz sN (λk=>k=gb\/aW (F z (Z outs) A)=I k)).tr u9).tr (bf.dx (X:=λk=>k=gb\/aW (F z (Z outs) A)=I k) (aI rfl) 0 (F Q Y C));have hOF:=aY (cX.up (Y':=λk=>k=gb) (bf.dx (X:=λk=>k=gb) rfl 0 (F Q Y C)) (λk e=>by subst e;exact hgb) λk e=>by subst e;exact hgb);have UF:=aY uF;have BF:=aY hbF;go_wp2;go_end0;exact⟨rfl,_,BF.aX,by rw[R.aX];exact hOF.aX,UF.aX,wI.aX⟩
structure anV(B B':cJ):Prop where
 me:B'.me=B.me
 par:B'.par=B.par
 bj:B'.bj=B.bj
 calls:B'.calls=B.calls
 dm:B'.dm=B.dm
 jn:B'.jn=B.jn
 cA:B'.cA=B.cA
 life:B'.st.life=B.st.life
theorem pO.w{B B'}(h:pO B B'):anV B B':=⟨h.me,h.par,h.bj,h.calls,h.dm,h.jn,h.cA,h.life⟩
theorem KK{B}(A:dq B):anV B (iL B):=by
 have y:=A.open';unfold iL;split;have z:=KJ A λx t=>(y.2.1 x t).2
 have C:=Nu (kids:=fK B) (p:=(Cb B,[])) z.1 λx t=>(y.1 x t).2
 have j:=z.2.tr C.2.1;exact⟨j.me,j.par,j.bj,j.calls,j.dm,j.jn,j.cA,j.life⟩;exact (pO.rf B).w
def vW(B:cJ):List (Int×List UInt8):=if ot B then []else xu (yH B) (E6 B)
def vX(B:cJ)(l:List Int):List (Int×List UInt8):=l.flatMap λk=>xu k (ya B k)
def xv(B:cJ):List (Int×List UInt8):=vW B++vX B (si B)
theorem ahe k m:Z (xu k m)<=1:=by grind [xu]
theorem XG B:∀l:List Int,Z (vX B l)<=Z l
 | []=>by simp[vX]
 | k :: l=>by have:=ahe k (ya B k);have:=XG B l;simp only[vX,yp,fg,gH]at *;omega
theorem ahf B:Z (vW B)<=1:=by grind [vW,ahe]
theorem aB0{B}{m:Nat}(j:B.me=(m:Int))(t:m<Z B.par):yH B=B.par[m]:=by grind [yH]
theorem avp{M p B w}(h:df M p B w)(hG:dq B)(hF:mV B)(gT:Z B.cA<=800000) :aK aR 103 #[aj (I ⟨p.g,0,U⟩)] w λe w'=>∃v' C,e=ak v'/\df (λk=>M k\/cY C k) C (iL B) w'/\bf (cY p) w w'/\C.key=p.key/\(∀k,cY C k->cY p k\/D (L w)<=k)/\Fx (λk=>M k\/cY C k) (λW=>bD Eb (xv (iL B)) v' W) w':=by
 have C1:=aY (afI h hG);have hS:=KK hG;have O:=Nv hG;have QT:=NF hG hF;have htW:Z (iL B).cA<=800000:=by rw[hS.cA];exact gT
 generalize iL B=t at *;obtain⟨g,hg⟩:∃g,g=p.g:=⟨_,rfl⟩;rw[<- hg]at C1|-;have HG:=aY hg;clear h hG hF gT hS hg;go_in;go_wp2_with fail
 refine C1.aX.mono ?_;rintro e w1⟨rfl,hN⟩;obtain⟨C,tJ,u1,kM,zt⟩:=hN;have gj:=bn.new w1 190 #[F U 0 0];have kA:=gj.cG;have Ul:D (L (aU w1 (aq #[F U 0 0] 190)))=D (L w1)+1:=bu;have EA:df (λk=>(M k\/cY C k)\/k=D (L w1)) C t (aU w1 (aq #[F U 0 0] 190)) :=tJ.far (X:=λ_=>False) (bf.cz kA _) (λ_ h=>h.elim) (λ_ h=>h.elim) (λk y T=>T.resolve_right aZ) (λk y=>aI (aJ y)) λk y=>by rcases y with y|y;have:=tJ.low k y;omega;omega
 have VH:=aY kA;have Ja:=tJ.low;have u1s:=u1.size;clear C1 tJ;go_upto_region 5 with fail;generalize w1.alloc _=w2 at *;generalize Uy:D (L w1)=gb at *;have mh:=(EF kM).trans HG.aX.symm;obtain⟨H,hbase⟩:∃H,H=D (L w2):=⟨_,rfl⟩;have hgb:gb<H:=aZ;have V5:Hid (∀W,bf (λk=>k=gb\/H<=k) w2 W->df (λk=>(M k\/cY C k)\/k=gb) C t W):=aY λW u =>
  have u':bf (λk=>k=gb) w2 W:=⟨u.os,u.tape,u.output,u.size,λk h1 h2=>u.block k h1 λh=>h.elim h2 λh=>aZ⟩
  EA.far u' (λk y=>aJ y) (λk y T=>by have:=Ja k (aJ T);omega) (λ_ _ h=>h) (λk y=>aI (aJ y)) λk y=>cZ (EA.low k y) u.size
 have HV2:=aY EA;have HX:=aY (aB u1 (aB kM (aB zt (aB Ja Uy))));clear EA u1 kM zt Ja Uy;go_wp2_with fail
 have CR:=aY (Rw HV2.aX);rw[mh]at CR;refine CR.aX.mono ?_;rintro e Y⟨rfl,k3⟩;have u3:bf (λk=>k=gb\/H<=k) w2 Y:=bf.cz k3 _;have Lz:=gj.bM k3;have EP:=aY u3;have nV:=bK.nil (λk=>k<H) H 193 Eb Y;have mg:=k3.size;clear CR gj;go_upto_if 14 with fail;go_cut [13,14]from 15 to 48 (fun _ _ W=>∃o,bn W gb 190 #[o]/\bK (fun k=>k<H) H 193 Eb (vW t) o W/\bf (fun k=>k=gb\/H<=k) w2 W)
 case first =>
  have HR:Hid (vW t=if ot t then []else xu (yH t) (E6 t)):=aY rfl;generalize vW t=OU at *;cases hr:ot t
  .have HO:Hid (OU=xu (yH t) (E6 t)):=aY (by rw[HR.aX,hr];rfl);clear hr HR;have S:=V5.aX Y u3;have q:=S.q;have lu:=O.dk.len;have hrl:=O.iy;have AV:=O.me;have hpl:=(rr O.tr).2;have tv:Z (fK t)<=16:=by unfold fK;rw[List.length_map];exact cQ (KO _ _) (rr O.tr).2
   simp only[iW,fI,decide_eq_true_eq]at AV;obtain⟨mn,AU⟩:=Int.eq_ofNat_of_zero_le AV.1;have QU:mn<Z t.par:=aZ;have V6:=aY (aB0 AU QU);have CL:=aY λW (k:K Y W)=>Xa (S.st k) O
   have CA:=aY λW (k:K Y W)=>afH (S.st k) O
   have HD:=aY λW (k:K Y W)=>S.dz.at k
   have Pw:=S.dz.now.par;have hs1:=bH S.dz.now.bq;have jI:=bH S.dz.now.bF;have jY:=bH S.dz.now.iy;have HV3:=aY S;rw[mh]at q CL CA;obtain⟨g',gl,gd,gr,gt,vd,vr,vp,vh,vl,vq,va,vt,vf,vw,kr⟩:=C;simp only at q HD Pw hs1 jI jY;simp only[JU,AU]at q;obtain⟨Al,cl,rfl⟩:=hs1;obtain⟨Aq,cq,rfl⟩:=jI;obtain⟨Af,cf,rfl⟩:=jY;obtain⟨Ap,cp,rfl,Uz,-⟩:=Pw;obtain⟨bp,op,rfl,hcell⟩:=ints_at Uz aZ;have qp:=λW (k:K Y W)=>hcell W k mn QU
   have xV:(mn:Int)<Z t.par:=aZ;have hw:=anF (Z t.st.bq) aZ;clear S hcell Uz AV AU u3;go_wp2_with fail
   have qs:=aB q (aB qp (aB xV hw));refine fD 33 ?_;iterate 28 refine bB.i ?_
   refine bB.op (λv W=>bD Bv (fK t) v W) (λ_ _ _ h k=>cM h k) (λV W Q R=>?_) ?_
   ·(try simp only[dN,bZ,cC,dK,dL,bS]at R)
    simp[dI,bR,aC,R,fk,aL,bT,q,qp,xV,hw,go_sem];refine (CL.aX W Q).mono ?_;exact amf
   refine bB.op (λv W=>bD qV (OM t.st.bF t.jn (fK t)) v W) (λ_ _ _ h k=>cM h k) (λV W Q R=>?_) ?_
   ·(try simp only[dN,bZ,cC,dK,dL,bS]at R)
    simp[dI,bR,aC,R,fk,aL,bT,q,qp,xV,hw,go_sem];refine (au9 t.st.bF t.jn (fK t) _ _ _ W (HD.aX W Q).bF (HD.aX W Q).iy R.2.2.1 aZ aZ aZ (λm hm=>by have:=(O.last hm).2.1;omega)).mono ?_;rintro e w4⟨v4,rfl,hO,k4⟩;exact⟨_,rfl,hO.bD,k4⟩
   refine bB.i ?_;refine bB.op (λv W=>bD cL (nr t) v W) (λ_ _ _ h k=>cM h k) (λV W Q R=>?_) ?_
   ·(try simp only[dN,bZ,cC,dK,dL,bS]at R)
    simp[dI,bR,aC,R,fk,aL,bT,q,qp,xV,hw,go_sem];refine (CA.aX W Q).mono ?_;exact amf
   refine bB.op (λv W=>nU (E6 t) v W) (λ_ _ _ h k=>aaW h k) (λV W Q R=>?_) ?_
   .simp only[dN,bZ,cC,dK,dL,bS]at R;obtain⟨MF,h29,h31,-⟩:=R;obtain⟨A29,c29,e29⟩:=bH h29;obtain⟨A31,c31,e31⟩:=bH h31;simp[dI,bR,aC,MF,e29,e31,fk,aL,bT,eP,go_sem];rw[e29]at h29;rw[e31]at h31;exact⟨_,_,_,_,_,_,rfl,h29,h31,iJ _ _,iJ _ _,iJ _ _,iJ _ _⟩
   clear qs;intro V W Q hA;simp only[bZ,cC,dF,bS,Nat.reduceAdd]at hA;obtain⟨f0,f1,f2,f3,f4,f5,f6,f7,f8,f9,f10,f11,f12,f13,f14,f15,f16,f17,f18,f19,f20,f21,f22,f23,f24,f25,f26,f27,f28,f29,f30,f31,f32,-⟩:=hA;have cV:=Lz.bM Q;have qv:=Q.size;have CS:=aY (afO (yH t) (E6 t) _ cV (nV.st Q) f32 (Xb O QT) hgb aZ bu);rw[V6.aX]at CS;clear f1 f2 f3 f4 f5 f6 f7 f8 f9 f11 f12 f13 f14 f15 f16 f17 f18 f19 f20 f21 f22 f23 f24 f25 f26 f27 f28 f29 f30 f31 f32 CL CA q qp;refine bN.call _ _ rfl (by simp[bR,aC,cP,f0,f10,aL,bT,go_sem];exact⟨rfl,rfl⟩) ?_;refine CS.aX.mono ?_;rintro e w5⟨rfl,o',iU,gL,u5,-⟩;refine⟨_,rfl,?_⟩;refine bN.nil ?_;simp only[iO,Act.put,xm,vU,vT,Nat.reduceAdd,cP];have U5:=aY ((EP.aX.tr (bf.cz Q (λk=>k=gb\/H<=k))).tr (u5.more λk y=>y.imp id λh=>kP));rw[bZ,<- V6.aX,<- HO.aX]at gL;clear CS f0 f10 u5;go_wp2_with fail
   go_meet
   case rel=>exact⟨_,iU,gL,U5.aX⟩
  have HO:Hid (OU=[]):=aY (by rw[HR.aX,hr];rfl);clear hr HR;go_wp2_with fail
  go_meet
  case rel=>exact⟨_,Lz,by rw[HO.aX];exact nV,EP.aX⟩
 case rest =>
  obtain⟨o,hbo,hO,u4⟩:=hcut;have MM:=V5.aX wc u4;have CK:=aY (WX MM O);rw[mh]at CK;have tv:Z (si t)<=16:=cQ (KO _ _) (rr O.tr).2;have h0l:=ahf t;have HX0:Hid (xv t=vW t++vX t (si t)):=aY rfl;have QV:=u4.size;clear MM Lz nV k3 u3 EP mg;go_wp2_with fail
  refine CK.aX.mono ?_;rintro e w5⟨v5,rfl,gL,k5⟩;generalize si t=z at *;obtain⟨A5,c5,rfl⟩:=gL.slice;have wO:=aY (gL.fx λ_ h=>h);have dR:=hO.blk;have iU:=hbo.bM k5;have Lx:bK (λk=>k<H) H 193 Eb (vW t++vX t (z.take 0)) o w5:=by have:=hO.st k5;simpa [vX]using this
  have u5:=aY (u4.tr (bf.cz k5 _));have Ko:=bf.rf (λk=>k=gb\/aW o=I k) w5;clear CK gL hbo hO u4;go_wp2_with fail
  go_loopw [6,52] (fun _ i W=>∃(j:Nat) (o2:aQ),j<=Z z/\i=G J j/\bn W gb 190 #[o2]/\bK (fun k=>k<H) H 193 Eb (vW t++vX t (z.take j)) o2 W/\bf (fun k=>k=gb\/aW o=I k) w5 W/\∀k,aW o2=I k->aW o=I k\/D (L w5)<=k) (fun _ i _=>Z z-(aO i).toNat)
  case atStart=>exact⟨0,o,aZ,rfl,iU,Lx,Ko,λ_ h=>aI h⟩
  case round =>
   clear iU Lx Ko;obtain⟨j,o2,hj,rfl,hb,hO,u,nA⟩:=hrel;have kO:=u5.aX.tr (u.more λk y=>y.imp id λh=>(dR k h).1);have aKD:=kO.size;have hus:=u.size;by_cases hlt:j<Z z
   .have cE:(j:Int)<Z z:=aZ;have hl:=(wO.aX.up u λk y=>by rcases y with y|y;omega;exact (dR k y).2).now;obtain⟨A,c,e,hl,-⟩:=hl;injection e with e1 e2 e3;subst e1;clear e2 e3;obtain⟨b,off,rfl,hcell⟩:=ints_at hl aZ;have cj:=hcell wr (K.rf _) j hlt;have hV:=V5.aX wr kO;have CC:=asP hV O QT.nd htW z[j];have hcf:=WR O z[j];have HS:Hid (vW t++vX t (z.take (j+1))=(vW t++vX t (z.take j))++xu z[j] (ya t z[j])):=aY (by
     unfold vX;rw[iY hlt,List.flatMap_append,<- gA];simp only[yp,List.flatMap_nil,List.append_nil])
    have Hh:=XG t (z.take j);have Bu:Z (vW t++vX t (z.take j))<=1000:=by rw[fg];rw[sc]at Hh;omega
    rw[mh]at CC;have CC:=aY CC;generalize z[j]=kd at *;generalize vW t++vX t (z.take j)=os at *;generalize ya t kd=cm at *;clear hcell hl hV Hh;go_wp2_with fail
    refine CC.aX.mono ?_;rintro e w6⟨v6,rfl,FM,k6⟩;have ky:=hb.bM k6;have AL:=k6.size;have C7:=aY (afO kd cm v6 ky (hO.st k6) FM hcf hgb aZ Bu);obtain⟨m1,m2,m3,m4,m5,m6,rfl,-⟩:=FM;clear CC cj hb hO;go_wp2_with fail
    refine C7.aX.mono ?_;rintro e w7⟨rfl,o7,jS,ke,u7,FN⟩;rw[<- HS.aX]at ke;have hU7:=aY ((u.tr (bf.cz k6 _)).ir u7 λk y T=>T.imp id λh=>(nA k h).resolve_right aZ);have hN7:=aY λk y=>(FN k y).elim (λh=>nA k h) λh=>aJ aZ
    clear C7 FN u7 nA;go_wp2;go_roundw
    case rel=>exact⟨j+1,o7,aZ,dh,jS,ke,hU7.aX,hN7.aX⟩
    case measure=>simp[aO];omega
   have cE:¬(j:Int)<Z z:=aZ;obtain rfl:j=Z z:=aZ;rw[pL,<- HX0.aX]at hO;obtain⟨Ao,co,rfl⟩:=hO.slice;have q:=hb.cell;obtain⟨u1,hkey,iR,Ja,Uy⟩:=HX.aX;have HF:=aY (show df (λk=>M k\/cY C k) C t wr from (V5.aX wr kO).less (λk y=>aJ y) λk y=>aI y);have hUF:=((u1.tr (bf.cz VH.aX _)).ir kO λk y T=>by
    have:=Ja;rcases T with T|T <;> omega)
   have HU:=aY hUF;have Kf:=aY ((hO.fx λ_ h=>h).less (N:=λk=>M k\/cY C k) λk y=>by have:=Ja k y;omega);have HK:=aY hkey;have Hw:=aY iR;clear hO u1 hkey iR Ja Uy kO hUF;go_wp2;go_ret;first|exact⟨_,rfl,C,HF.aX,HU.aX,HK.aX,Hw.aX,Kf.aX⟩|exact⟨_,C,rfl,HF.aX,HU.aX,HK.aX,Hw.aX,Kf.aX⟩
abbrev kI:=(Int×Int)×List (List UInt8)
def nX(j:List kI)(k:Int×Int):Option (List (List UInt8)):=(j.find? λp=>decide (p.1=k)).map (·.2)
def jW(j:List kI)(k:Int×Int)(l:List (List UInt8)):List kI:=j.map λp=>if p.1=k then (p.1,l)else p
def xw(j:List kI)(k:Int×Int)(b:List UInt8):List kI:=match nX j k with
 | some l=>if Z l<8 then jW j k (l++[b])else j
 | none=>j
structure zx where
 up:Option cJ
 dk:rP
structure cT where
 par:List Int
 bj:List Int
 dV:List kI
 eV:List zx
 cur:List Int
 got:List (List (List (List eD)))
structure oA(O:cT):Prop where
 tr:iH O.par=aA
 hm:mU O.par O.bj=aA
 ln:Z O.eV=Z O.par
 lc:Z O.cur=Z O.bj
 lg:Z O.got=Z O.bj
def mi(O:cT)(n:Int):Bool:=iW O.par n
def eK(O:cT)(n:Int):Option cJ:=if mi O n then (O.eV[n.toNat]?).bind (·.up)else U
def lf(O:cT)(n:Int)(x:zx):cT:={ O with eV:=O.eV.set n.toNat x }
def oB(O:cT)(n:Int)(B:cJ):cT:=lf O n ⟨I B,B.dk⟩
def oh(O:cT)(c:Int):Bool:=decide (0<=c)&&decide (c<(Z O.bj:Int))
def pP(O:cT)(c:Int):Int:=(O.bj[c.toNat]?).getD 0
def pQ{α:Type}(O:cT)(c:Int)(z:α)(f:cJ->cJ×α×Int):cT×α×Int :=
 if oh O c then (match eK O (pP O c)with|none=>(O,z,210)|some B=>(oB O (pP O c) (f B).1,(f B).2))else (O,z,1)
def vK{α:Type}(O:cT)(c:Int)(a:bY)(z:α)(f:cJ->cJ×α×Int):cT×α×Int :=
 if oh O c&&(eK O (pP O c)).isSome&&decide (a.1≠pP O c)then (O,z,1)else pQ O c z f
def lQ(O:cT)(c:Int):cT×bY×Int:=pQ O c (0,0,0) λB=>zM B c
def oC(O:cT)(c:Int)(n:Nat)(f:List fo):cT×bY×Int:=pQ O c (0,0,0) λB=>Cm B c n f
def uE(O:cT)(c:Int)(n:Nat):cT×bY×Int:=pQ O c (0,0,0) λB=>B7 B c n
def eS(O:cT)(c:Int)(a:bY)(f:List eU->List eU×Int):cT×Unit×Int:=vK O c a () λB=>((gg B (f B.bI)).1,(),(gg B (f B.bI)).2)
def yj(O:cT)(c:Int)(a:bY):Int×Int:=let r:=vK O c a (0:Int) λB=>(B,GG B a,0);r.2
def jU(O:cT)(c:Int):cT×List (List eD)×Int :=
 if oh O c then (match eK O (pP O c)with
  | none=>(O,[],210)
  | some B =>
   let r:=sq B c ((O.cur[c.toNat]?).getD 0)
   if r.2.2=0 then ({ O with cur:=O.cur.set c.toNat r.2.1,got:=if r.1=[]then O.got else O.got.modify c.toNat λg=>g++[r.1] },r.1,0)else (O,[],r.2.2))
 else (O,[],1)
def oZ(O:cT)(n:Int):cT×Int :=
 if mi O n then (match eK O n with
  | none=>(O,210)
  | some B=>({ oB O n (iL B)with dV:=(xv (iL B)).foldl (λj m=>xw j (n,m.1) m.2) O.dV },0))
 else (O,1)
def nH(O:cT)(a b:Int):cT×Int:=match nX O.dV (a,b)with
 | none=>(O,140)
 | some []=>(O,141)
 | some (m :: l) =>
  let P:={ O with dV:=jW O.dV (a,b) l }
  match eK O b with
  | none=>(P,210)
  | some B=>(oB P b (jc B a m).1,(jc B a m).2)
def pR(O:cT)(a b:Int):Nat:=Z ((nX O.dV (a,b)).getD [])
def Fh(a b:Int):Nat->cT->cT
 | 0,O=>O
 | k+1,O=>Fh a b k (nH O a b).1
def xA(O:cT)(n:Nat):cT:=if (oZ O n).2=0 then (List.range (Z O.par)).foldl (λO (t:Nat)=>if t=n then O else Fh n t (pR O n t) O) (oZ O n).1 else O
def zP(O:cT):cT:=((List.range (Z O.par)).reverse++List.range (Z O.par)).foldl xA O
def xi(O:cT)(n:Int):cT×Int:=if mi O n then (match eK O n with|none=>(O,210)|some B=>(lf O n ⟨U,B.dk⟩,0))else (O,1)
def vL(d:rP):eT:=(lD eZ d.ie).getD eZ
def s5(O:cT)(n:Int):cT×Int :=
 let d:=((O.eV[n.toNat]?).map (·.dk)).getD ⟨[],0⟩
 if jM (fA (eN (vL d)))<=d.room then (oB O n (xq n O.par O.bj ⟨fA (eN (vL d)),d.room⟩ (eN (vL d))),0)else (O,90)
def xb(O:cT)(n:Int):cT×Int:=if mi O n then (if (eK O n).isSome then (O,210)else s5 O n)else (O,1)
def qI(O:cT)(n:Int):eT:=if mi O n then (match eK O n with|some B=>B.st|none=>((O.eV[n.toNat]?).map λx=>vL x.dk).getD eZ)else eZ
def Jb(O:cT)(n:Int):Nat:=Z (qI O n).bF+(match eK O n with|some B=>Z (B.bI.filter (·.eC))+Z B.dy|none=>0)
def I3(par:List Int):List kI:=(List.range (Z par)).tail.flatMap λ(k:Nat)=>let p:=(par[k]?).getD 0;[(((k:Int),p),[]),((p,(k:Int)),[])]
def mC(par bj:List Int)(room:Nat):cT :=
 ⟨par,bj,I3 par,(List.range (Z par)).map λ(n:Nat)=>let d:rP:=⟨fA (eN eZ),room⟩;⟨I (xq n par bj d (eN eZ)),d⟩,bj.map λ_=>0,bj.map λ_=>[]⟩
def QW(M C:Nat->Prop)(v:aQ)(j:List (List UInt8))(W:aP):Prop:=∃c vs,v=.chan (I c)/\C c/\mY c vs W/\Z vs=Z j/\∀(i:Nat) (h:i<Z vs) (h':i<Z j),Z j[i]<=1000000000/\Fx M (λW=>sl j[i] vs[i] W) W
structure zy(M C:Nat->Prop)(gn gm:Nat)(bC:List ((Int×Int)×aQ))(aT:List kI)(W:aP):Prop where
 blk:bn W gn 153 #[.map (I gm)]
 map:fP qM W gm bC
 len:Z bC=Z aT
 ls:∀(i:Nat) (h:i<Z bC) (h':i<Z aT),bC[i].1=aT[i].1/\QW M C bC[i].2 aT[i].2 W
 nd:(bC.map (·.2)).Nodup
 kn:∀(i j:Nat) (h1:i<Z bC) (h2:j<Z bC),bC[i].1=bC[j].1->i=j
 ne:¬M gn/\¬M gm
 sub:∀k,C k->M k
def pC(M C:Nat->Prop)(j:Nat)(t:List kI)(W:aP):Prop:=∃y bC,zy M C j y bC t W
section
variable {M M' C X:Nat->Prop}{gn gm:Nat}{bC:List ((Int×Int)×aQ)}{aT:List kI}{W W':aP}{v:aQ}{ms:List (List UInt8)}{a b:Int}
theorem QW.to(h:QW M C v ms W)(u:bf X W W')(O:∀k,X k->M k)(A:∀k,C k->¬X k)(H:∀k,k<D (L W)->M' k->M k):QW M' C v ms W':=by obtain⟨c,vs,e,y,B,N,t⟩:=h;exact⟨c,vs,e,y,B.cF u (A c y),N,λi z j=>⟨(t i z j).1,(t i z j).2.to u O H⟩⟩
theorem pC.to(h:pC M C gn aT W)(u:bf X W W')(t:∀k,X k->M k)(B:∀k,C k->¬X k)(j:∀k,k<D (L W)->M' k->M k)(O:∀k,C k->M' k):pC M' C gn aT W':=by
 obtain⟨z,bC,h⟩:=h;have N:=h.blk.lt;have hm:z<D (L W):=by obtain⟨es,c,H,-⟩:=h.map;exact (aG.1 H).1
 exact⟨z,bC,h.blk.cF u λe=>h.ne.1 (t _ e),h.map.cF u λe=>h.ne.2 (t _ e),h.len,λi A y=>⟨(h.ls i A y).1,(h.ls i A y).2.to u t B j⟩,h.nd,h.kn,⟨λe=>h.ne.1 (j _ N e),λe=>h.ne.2 (j _ hm e)⟩,O⟩
theorem Ld:∀(bC:List ((Int×Int)×aQ)) (aT:List kI) (k:Int×Int),Z bC=Z aT->(∀(i:Nat) (h:i<Z bC) (h':i<Z aT),bC[i].1=aT[i].1)->(nX aT k=U/\∀j,i6 k bC j=U)\/∃i,∃(h:i<Z bC) (h':i<Z aT),bC[i].1=k/\nX aT k=I aT[i].2/\∀j,i6 k bC j=I (i+j,bC[i].2)
 | [],[],k,_,_=>aI ⟨rfl,λ_=>rfl⟩
 | [],_ :: _,_,h,_=>zH
 | _ :: _,[],_,h,_=>zH
 | p :: r,q :: s,k,h,he=>by have y:=he 0 bu bu;simp only[List.getElem_cons_zero]at y;by_cases t:p.1=k;exact aJ ⟨0,bu,bu,t,by simp[nX,<- y,t],λj=>by simp[i6,t]⟩;rcases Ld r s k Dz (λi h1 h2=>he (i+1) E4 BR)with ⟨h1,h2⟩|⟨i,h1,h2,h3,z,A⟩;exact aI ⟨by unfold nX at *;simpa [<- y,t]using h1,λj=>by simp[i6,t,h2]⟩;exact aJ ⟨i+1,E4,BR,K1,by unfold nX at *;simpa [<- y,t]using z,λj=>by simp[i6,t,A];omega⟩
theorem aaZ{j k l i}(h:i<Z (jW j k l))(t:i<Z j):(jW j k l)[i]=if j[i].1=k then (j[i].1,l)else j[i]:=by simp[jW]
theorem zy.set(h:zy M C gn gm bC aT W){i c k}(hi:i<Z bC)(hk:bC[i].1=k)(X:bC[i].2=.chan (I c)){l}(u:bf (λk=>k=c) W W')(T:QW M C bC[i].2 l W'):zy M C gn gm bC (jW aT k l) W':=by
 have O:C c:=by obtain⟨Y,vs,e,h1,-⟩:=T;grind
 have z:=h.sub c O;refine⟨h.blk.cF u λe=>h.ne.1 (e▸z),h.map.cF u λe=>h.ne.2 (e▸z),by simp[jW,h.len],λj h1 Q=>?_,h.nd,h.kn,h.ne,h.sub⟩;have H:j<Z aT:=by rw[<- h.len];exact h1
 obtain⟨y,N⟩:=h.ls j h1 H;rw[aaZ Q H];by_cases t:aT[j].1=k
 .rw[bV t];obtain rfl:=h.kn j i h1 hi ((y.trans t).trans hk.symm);grind
 rw[bQ t];refine⟨y,?_⟩;obtain⟨c2,vs,e,R,V,S,A⟩:=N;refine⟨c2,vs,e,R,V.cF u λe2=>t ?_,S,λi hi B=>⟨(A i hi B).1,(A i hi B).2.up u λk e=>e▸z⟩⟩;have:=(List.getElem_inj (h₀:=E4) (h₁:=Sq) h.nd).1 bL;subst this;exact y.symm.trans hk
theorem afP(h:pC M C gn aT W) :aK aR 105 #[aj (I ⟨gn,0,U⟩),G J a,G J b] W λe t=>∃v y,e=ak (au #[v,G J y])/\bf C W t/\(nX aT (a,b)=U/\y=140/\pC M C gn aT t\/nX aT (a,b)=I []/\y=141/\pC M C gn aT t\/∃m l,nX aT (a,b)=I (m :: l)/\y=0/\pC M C gn (jW aT (a,b) l) t/\Z m<=1000000000/\Fx M (λW=>sl m v W) t):=by
 obtain⟨B,bC,h⟩:=h;have hU:=h.kn;rcases Ld bC aT (a,b) h.len (λi h1 z=>(h.ls i h1 z).1)with ⟨h1,z⟩|⟨i,h1,z,h3,N,h5⟩;apply bW (aAl h.blk h.map DK);rintro t rfl;exact⟨_,_,rfl,bf.rf _ _,aI ⟨h1,rfl,B,bC,h⟩⟩;obtain⟨c,vs,e,O,Y,q3,q4⟩:=(h.ls i h1 z).2;have Q:∀x∈vs,∃A n d,x=F A n d:=λx hx=>by exact aam
 apply bW (auF h.blk h.map DK Y Q);rintro t⟨T,u⟩;have hM:=h.sub c O;have key:∀l,Z vs.tail=Z l->(∀(j:Nat) (hj:j<Z vs.tail) (hj':j<Z l),Z l[j]<=1000000000/\Fx M (λW=>sl l[j] vs.tail[j] W) t)->zy M C gn B bC (jW aT (a,b) l) t:=λl S V =>
  h.set h1 h3 e u ⟨c,vs.tail,e,O,T,S,V⟩
 refine⟨_,_,rfl,u.more λk R=>R▸O,?_⟩;obtain⟨H,nB⟩:∃H,aT[i].2=H:=⟨_,rfl⟩;simp only[nB]at N q3 q4;cases H with
 | nil =>
  obtain rfl:vs=[]:=List.eq_nil_of_length_eq_zero OC;have X:jW aT (a,b) []=aT:=List.ext_getElem aan λj g1 g2=>by exact amg
  exact aJ (aI ⟨N,bu,B,bC,X▸key [] bu (λj hj=>by simp at hj)⟩)
 | cons m l =>
  cases vs with
  | nil=>simp at q3
  | cons x vs => refine aJ (aJ ⟨m,l,N,bu,⟨B,bC,key l OC λj hj hj'=>?_⟩,(q4 0 bu bu).1,(q4 0 bu bu).2.up u λk e=>e▸hM⟩);have:=q4 (j+1) GF Yt;exact aao
theorem avq(h:pC M C gn aT W)(hl:∀k,M k->k<D (L W)) bs u(hb:sl bs u W)(hn:Z bs<=1000000000) :aK aR 104 #[aj (I ⟨gn,0,U⟩),G J a,G J b,u] W λe z=>∃X,e=ak (G J X)/\bf C W z/\pC M C gn (xw aT (a,b) bs) z:=by
 obtain⟨T,bC,h⟩:=h;have hU:=h.kn;rcases Ld bC aT (a,b) h.len (λi t A=>(h.ls i t A).1)with ⟨t,A⟩|⟨i,t,A,R,h4,h5⟩;apply bW (aAm h.blk h.map DK);rintro z rfl;exact⟨_,rfl,bf.rf _ _,T,bC,by grind [xw]⟩;obtain⟨c,vs,e,B,q2,N,H⟩:=(h.ls i t A).2;apply bW (auH h.blk h.map DK q2 bs u hb hn);rintro z⟨⟨v',y,hF⟩,u⟩;have S:=h.sub c B;refine⟨_,rfl,u.more λk hk=>hk▸B,T,bC,?_⟩;unfold xw;rw[h4];unfold aa4 at y;simp only;by_cases V:Z vs<8;rw[bV V]at y;rw[bV aZ];refine h.set t R e u ⟨c,_,e,B,y,by simp[N],λj hj Q=>?_⟩;by_cases O:j<Z vs;simp only[List.getElem_append_left O,List.getElem_append_left (show j<Z aT[i].2 by omega)];exact⟨(H j O aZ).1,(H j O aZ).2.up u λk e=>e▸S⟩;obtain rfl:j=Z vs:=Tn;simp only[List.getElem_concat_length,N];exact⟨hn,hF.less hl⟩;rw[bQ V]at y;rw[bQ aZ];have Y:jW aT (a,b) aT[i].2=aT:=List.ext_getElem aan λj g1 g2=>by
  rw[aaZ g1 g2];split
  .next hj =>
   have:=hU j i amh t (((h.ls j _ g2).1.trans hj).trans R.symm);subst this;rfl
  rfl
 exact Y▸h.set t R e u ⟨c,vs,e,B,y,N,λj hj Q=>⟨(H j hj Q).1,(H j hj Q).2.up u λk e=>e▸S⟩⟩
theorem avr(h:pC M C gn aT W) :aK aR 100 #[aj (I ⟨gn,0,U⟩),G J a,G J b] W λe z=>e=ak (G J (Z ((nX aT (a,b)).getD []):Int))/\z=W:=by obtain⟨R,bC,h⟩:=h;rcases Ld bC aT (a,b) h.len (λi j t=>(h.ls i j t).1)with ⟨j,t⟩|⟨i,j,t,Q,A,O⟩;rw[j];exact aAn h.blk h.map DK;obtain⟨c,vs,e,N,B,y,H⟩:=(h.ls i j t).2;rw[A,Option.getD_some,<- y];exact auG h.blk h.map DK B
end
structure ix(B B':cJ):Prop where
 bq:B.st.bq <+: B'.st.bq
 ab:B.st.ab <+: B'.st.ab
 life:B'.st.life=B.st.life
theorem ix.rf B:ix B B:=⟨List.prefix_refl _,List.prefix_refl _,rfl⟩
theorem ix.tr{A B C}(h:ix A B)(k:ix B C):ix A C:=⟨h.bq.trans k.bq,h.ab.trans k.ab,k.life.trans h.life⟩
structure jQ(B:cJ):Prop where
 ab:∀a∈B.st.ab,dM B.st.bq a=az
 bF:Z B.st.bF<=6
theorem awX{l a b}(h:fJ l a=az)(hb:b∈l):b≠a:=by grind [fJ]
theorem aB1{s t r}(hk:r.bA≠1)(e:fX s r=I t)(A:∀a∈s.ab,dM s.bq a=az):s.bq <+: t.bq/\s.ab <+: t.ab/\t.life=s.life/\(∀a∈t.ab,dM t.bq a=az)/\(Z t.bF<=Z s.bF+(if r.bA=3 then 1 else 0)):=by
 have j:=alE hk e;unfold fX at e;rw[bQ hk]at e;split at e
 .rename_i h2;unfold yV at e;split at e;cases e;split at e;cases e;split at e;cases e;rename_i B z;injection e with e;subst e;refine⟨List.prefix_append _ _,List.prefix_refl _,rfl,λa y=>?_,?_⟩
  .grind [dM,Bool.or_eq_false_iff,awX]
  grind [fX,dM,bE,kQ]
 split at e
 .grind [fX,dM,yX]
 split at e
 .grind [fX,dM,yY,jT,kQ]
 grind [fX,dM,AZ,jT,kQ]
theorem ahg{B r}(hk:r.bA≠1)(A:∀a∈B.st.ab,dM B.st.bq a=az):ix B (eQ B r).1/\(∀a∈(eQ B r).1.st.ab,dM (eQ B r).1.st.bq a=az)/\Z (eQ B r).1.st.bF<=Z B.st.bF+(if r.bA=3 then 1 else 0):=by
 unfold eQ;split
 .split
  .grind [ix.rf]
  rename_i t H;obtain⟨z,j,M,y,C⟩:=aB1 hk H A;exact⟨⟨z,j,M⟩,y,C⟩
 grind [ix.rf]
theorem Si{B r}(hk:r.bA≠1)(j:r.bA≠3)(h:jQ B):ix B (eQ B r).1/\jQ (eQ B r).1:=by obtain⟨a,b,c⟩:=ahg hk h.ab;rw[bQ j]at c;exact⟨a,⟨b,cQ c h.bF⟩⟩
theorem ahZ{B}(h:jQ B) x:ix B (nM B x).1/\jQ (nM B x).1:=Si yh yh h
theorem ayK{B}(h:jQ B) a:ix B (oU B a).1/\jQ (oU B a).1:=by have:=Si (B:=B) (r:=lE 4 a) yi yi h;unfold oU;split;exact⟨⟨this.1.bq,this.1.ab,this.1.life⟩,⟨this.2.ab,this.2.bF⟩⟩;grind [ix.rf]
theorem agp{B}(h:jQ B) a:ix B (jC B a)/\jQ (jC B a):=by grind [jC,Si,lE,ix.rf]
theorem Yh{α:Type}{f}(t:∀B x,jQ B->ix B (f B x)/\jQ (f B x)):∀(l:List α) (B:cJ),jQ B->ix B (l.foldl f B)/\jQ (l.foldl f B):=by
 intro l;induction l with
 | nil=>intro B h;exact⟨ix.rf _,h⟩
 | cons x l j => intro B h;obtain⟨a,b⟩:=t B x h;obtain⟨c,d⟩:=j (f B x) b;exact⟨a.tr c,d⟩
theorem ayL{kids p x}(h:jQ p.1):ix p.1 (lJ kids p x).1/\jQ (lJ kids p x).1:=by grind [lJ,ahZ,ix.rf,ayK]
theorem ayM{kids}:∀(l:List bU) (p:cJ×List bU),jQ p.1->ix p.1 (l.foldl (lJ kids) p).1/\jQ (l.foldl (lJ kids) p).1:=by
 intro l;induction l with
 | nil=>intro p h;exact⟨ix.rf _,h⟩
 | cons x l j => intro p h;obtain⟨a,b⟩:=ayL (kids:=kids) (x:=x) h;obtain⟨c,d⟩:=j (lJ kids p x) b;exact⟨a.tr c,d⟩
theorem Yi{B}(h:jQ B):ix B (iL B)/\jQ (iL B):=by unfold iL;split;obtain⟨a,b⟩:=Yh (f:=λb x=>(nM b x).1) (λB x h=>ahZ h x) (qH B.st B.dy (nr B)).2 B h;obtain⟨c,d⟩:=ayM (kids:=fK B) (qH B.st B.dy (nr B)).1 (Cb B,[]) b;exact⟨⟨(a.tr c).bq,(a.tr c).ab,(a.tr c).life⟩,⟨d.ab,d.bF⟩⟩;grind [ix.rf]
theorem ayN:∀(l:List bU) (B:cJ) (n:Nat),jQ B->ix B (lC B n l)/\jQ (lC B n l):=by
 intro l;induction l with
 | nil=>intro B n h;exact⟨ix.rf _,h⟩
 | cons x l j =>
  intro B n h;unfold lC;split
  .split;obtain⟨a,b⟩:=Si (B:=B) (r:=pc n x) yh yh h;obtain⟨c,d⟩:=j (eQ B (pc n x)).1 ((n+1)%18446744073709551616) b;exact⟨a.tr c,d⟩;grind [ix.rf]
  grind
theorem ayO{B}(h:jQ B) a:ix B (lU B a)/\jQ (lU B a):=by
 unfold lU;split
 .grind [ix.rf]
 have j:jQ { B with cA:=B.cA++[a],bI:=gU B.bI a }:=⟨h.ab,h.bF⟩;obtain⟨b,c⟩:=agp j a;exact⟨⟨b.bq,b.ab,b.life⟩,c⟩
theorem auf{s}(j:Z s.bF<=6):∀(l:List bU) (p:List bU×List bY),Z s.bF+Z p.1<=6->Z s.bF+Z (l.foldl (lT s) p).1<=6:=by
 intro l;induction l with
 | nil=>intro p h;exact h
 | cons x l t => grind [lT]
theorem ayP:∀(l:List bU) (p:cJ×List bY),(∀a∈p.1.st.ab,dM p.1.st.bq a=az)->Z p.1.st.bF+Z l<=6->ix p.1 (l.foldl km p).1/\jQ (l.foldl km p).1:=by
 intro l;induction l with
 | nil=>intro p j t;exact⟨ix.rf _,⟨j,bL⟩⟩
 | cons x l z =>
  intro p j t;simp only[gH]at t;have:=ahg (B:=p.1) (r:=xE x) BX j;have y:ix p.1 (km p x).1/\(∀a∈(km p x).1.st.ab,dM (km p x).1.st.bq a=az)/\Z (km p x).1.st.bF<=Z p.1.st.bF+1:=by
   unfold km;split
   .grind
   simp_all [ix.rf,aH]
  obtain⟨a,b⟩:=z (km p x) y.2.1 aZ;exact⟨y.1.tr a,b⟩
theorem aAM{B}(h:jQ B) l:ix B (yx B l)/\jQ (yx B l):=by have j:=auf h.bF (nR B l) ([],[]) (by simpa using h.bF);obtain⟨a,b⟩:=ayP (pG B.st (nR B l)).1 (B,wi B l++(pG B.st (nR B l)).2) h.ab j;unfold yx vV;exact⟨⟨a.bq,a.ab,a.life⟩,⟨b.ab,b.bF⟩⟩
theorem ah0{B}(h:jQ B) m:ix B (sY B m)/\jQ (sY B m):=by obtain⟨z,t⟩:=ayN m.eM B m.got h;obtain⟨y,A⟩:=Yh (f:=lU) (λB x h=>ayO h x) m.fc _ t;obtain⟨H,M⟩:=Yh (f:=jC) (λB x h=>agp h x) m.fQ _ A;obtain⟨j,C⟩:=aAM M m.gq;exact⟨((z.tr y).tr H).tr j,C⟩
theorem Xn{B}(h:jQ B) j b:ix B (jc B j b).1/\jQ (jc B j b).1:=by
 unfold jc;split
 .split
  .grind [ix.rf]
  rename_i m _;split;have t:jQ { B with dm:=oT B.dm j m }:=⟨h.ab,h.bF⟩;obtain⟨a,c⟩:=Yi t;exact⟨⟨a.bq,a.ab,a.life⟩,c⟩;grind [ah0,ix.rf]
 grind [ix.rf]
theorem aAN{B}(h:jQ B) c lay:ix B (jF B c lay).1/\jQ (jF B c lay).1:=by unfold jF;split;exact ami;grind [ix.rf]
theorem aAO{B}(h:jQ B) r:ix B (gg B r).1/\jQ (gg B r).1:=by unfold gg;exact ami
def ju(l:List eU):Prop:=∀t∈l,t.eC=az->t.e.bA=1
theorem ju.nil:ju []:=λt h=>by simp at h
theorem ju.erase{l}(h:ju l) k:ju (l.eraseIdx k):=λt j=>h t (List.mem_of_mem_eraseIdx j)
theorem ju.settle{l}(h:ju l) a:ju (gU l a):=by unfold gU;split;exact h;exact h.erase _
theorem ju.add{l}(h:ju l) t(y:t.eC=aA\/t.e.bA=1):ju (uO l t).1:=by
 unfold uO
 repeat' split
 all_goals first|exact h|skip
 intro s j
 rcases List.mem_append.1 j with j|j
 .exact h s j
 grind
theorem ju.set{l}(h:ju l) k t(z:t.eC=aA\/t.e.bA=1):ju (l.set k t):=λs y=>by rcases List.mem_or_eq_of_mem_set y with y|rfl;exact h s y;intro A;rcases z with j|j;rw[A]at j;cases j;exact j
theorem ju.Fb{l}(h:ju l) a e:ju (ij l a e).1:=by
 unfold ij
 split
 exact h
 split
 exact h
 rename_i k t j
 repeat' split
 all_goals first|exact h|skip
 refine h.set _ _ ?_
 cases hk:t.eC
 exact aJ (h t (List.mem_of_getElem? j) hk)
 simp
theorem ju.Fi{l}(h:ju l) a:ju (iK l a).1:=by unfold iK;split;exact h;split;exact h;exact h.set _ _ (aI rfl)
theorem ju.abort{l}(h:ju l) a:ju (jD l a).1:=by unfold jD;split;exact h.settle a;exact h
structure ic(B:cJ):Prop extends dq B where
 tL:ju B.bI
theorem dq.put{B}(j:dq B){l n}(t:lH l)(hn:n<4611686018427387904):dq { B with bI:=l,calls:=n } :=
 ⟨j.tr,j.me,j.hm,j.dk,t,hn,j.dm,j.cA,j.iy,j.dy,j.Cq⟩
theorem ic.put{B}(t:ic B){l n}(j:lH l)(hk:ju l)(hn:n<4611686018427387904):ic { B with bI:=l,calls:=n } :=
 ⟨t.todq.put j hn,hk⟩
theorem ic.call{B}(j:ic B)(hn:B.calls+1<4611686018427387904) c{lay}(t:lH lay.1)(hk:ju lay.1):ic (jF B c lay).1:=by unfold jF;split;split;exact j.put t hk hn;exact j;exact j
theorem ic.begin{B}(j:ic B)(hn:B.calls+1<4611686018427387904){c}(y:dA c):ic (zM B c).1:=by have t:=j.new;exact j.call hn c (SK j.tx _ ⟨by simp[xD,dA],t.1,y,t.2.1,t.2.2,K8,K8,K8⟩) (j.tL.add _ (aJ rfl))
theorem ic.ask{B}(j:ic B)(hn:B.calls+1<4611686018427387904){k c}(hk:dA k)(C:dA c){n}(A:n<18446744073709551616){f}(z:∀t∈f,jN t):ic (jF B c (qN B.bI (jP B k c n f))).1:=by have y:=j.new;exact j.call hn c (SK j.tx _ ⟨hk,y.1,C,y.2.1,y.2.2,A,z,by simp[jP]⟩) (j.tL.add _ (aI rfl))
theorem ic.keep{B}(j:ic B){r}(t:lH r.1)(hk:ju r.1):ic (gg B r).1:=by unfold gg;split;exact j.put t hk j.calls;exact j
theorem ic.Fb{B}(j:ic B){a e}(t:∀x∈e,nv x)(y:ew a):ic (gg B (ij B.bI a e)).1 :=
 j.keep (XU (l:=B.bI) j.tx ⟨2,a,0,e,fS⟩ y tQ t II j.tL) (j.tL.Fb a e)
theorem ic.Fi{B}(j:ic B){a}(t:ew a):ic (gg B (iK B.bI a)).1 :=
 j.keep (XU (l:=B.bI) j.tx ⟨3,a,0,[],fS⟩ t tQ bu II j.tL) (j.tL.Fi a)
theorem ic.abort{B}(j:ic B){a}(t:ew a):ic (gg B (jD B.bI a)).1 :=
 j.keep (XU (l:=B.bI) j.tx ⟨4,a,0,[],fS⟩ t tQ bu II j.tL) (j.tL.abort a)
theorem XH{B}(h:ju B.bI) r:ju (eQ B r).1.bI:=by unfold eQ;split;split;exact h;show ju (if r.bA=2 then gU B.bI (bE r.e)else B.bI);split;exact h.settle _;exact h;exact h
theorem awY{B}(h:ju B.bI) a:ju (oU B a).1.bI:=by unfold oU;split;exact (XH h _).settle _;exact h
theorem ayQ{l:List bU}:∀ {B:cJ},ju B.bI->ju (l.foldl (λb x=>(nM b x).1) B).bI:=by
 induction l with
 | nil=>intro B h;exact h
 | cons x l j=>intro B h;exact j (XH h _)
theorem ayR{kids}{l:List bU}:∀ {p:cJ×List bU},ju p.1.bI->ju (l.foldl (lJ kids) p).1.bI:=by
 induction l with
 | nil=>intro p h;exact h
 | cons x l j =>
  intro p h
  refine j ?_
  unfold lJ
  repeat' split
  all_goals first|exact h|exact XH h _|exact awY h _
theorem ic.work{B}(j:ic B):ic (iL B):=by refine⟨Nv j.todq,?_⟩;unfold iL;split;exact ayR (p:=(Cb B,[])) (ayQ j.tL);exact j.tL
section
variable {P:cJ->Prop}
theorem XI(j:∀B r,P B->P (eQ B r).1):∀ {l:List bU} {B:cJ} {n:Nat},P B->P (lC B n l)
 | [],B,n,h=>h
 | x :: l,B,n,h=>by unfold lC;split;split;exact XI j (j _ _ h);exact h;exact XI j h
theorem afQ(j:∀B r,P B->P (eQ B r).1){B}(h:P B) a:P (jC B a):=by grind [eQ,jC]
theorem XJ{α:Type}{f:cJ->α->cJ}(j:∀B a,P B->P (f B a)):∀ {l:List α} {B:cJ},P B->P (l.foldl f B)
 | [],_,h=>h
 | a :: l,B,h=>XJ j (l:=l) (j B a h)
theorem ahh(j:∀B r,P B->P (eQ B r).1):∀ {l:List bU} {p:cJ×List bY},P p.1->P (l.foldl km p).1
 | [],_,h=>h
 | x :: l,p,h=>by refine ahh j (l:=l) ?_;unfold km;split;exact j _ _ h;exact h
theorem ahi(j:∀B r,P B->P (eQ B r).1)(y:∀B a,P B->P { B with cA:=B.cA++[a],bI:=gU B.bI a })(t:∀B l,P B->P { B with jn:=l }){B}(h:P B) m:P (sY B m):=by unfold sY yx;refine t _ _ ?_;unfold vV;refine ahh j ?_;refine XJ (P:=P) (f:=jC) (λB a h=>afQ j h a) ?_;refine XJ (P:=P) (f:=lU) (λB a h=>?_) (XI j h);unfold lU;split;exact h;simp_all [afQ]
end
def TM(c:Nat)(B:cJ):Prop:=B.calls=c/\ju B.bI
theorem aug{c} B r(h:TM c B):TM c (eQ B r).1:=by unfold eQ;split;split;exact h;refine⟨h.1,?_⟩;show ju (if r.bA=2 then gU B.bI (bE r.e)else B.bI);split;exact h.2.settle _;exact h.2;exact h
theorem afi{c B}(h:TM c B) m:TM c (sY B m) :=
 ahi aug (λ_ _ h=>⟨h.1,h.2.settle _⟩) (λ_ _ h=>h) h m
theorem Xo{B}(h:mV B)(j:ic B) t b(H:Z B.cA+16<=1000000):ic (jc B t b).1/\(jc B t b).1.calls=B.calls:=by
 have M:=(afL h j.todq t b H).2.1;suffices y:ju (jc B t b).1.bI/\(jc B t b).1.calls=B.calls from ⟨⟨M,y.1⟩,y.2⟩
 unfold jc;split
 .split;exact⟨j.tL,rfl⟩;rename_i m hm;have z:=(ND hm).2;have C:=NM hm;split;have g:=NG (k:=t) j.todq z C;have A:ic { B with dm:=oT B.dm t m }:=⟨g,j.tL⟩;exact⟨A.work.tL,(KK g).calls⟩;split;have:=afi (c:=B.calls) ⟨rfl,j.tL⟩ m;exact⟨this.2,this.1⟩;exact⟨j.tL,rfl⟩
 exact⟨j.tL,rfl⟩
structure mD(B:cJ)(n:Nat):Prop where
 inv:jQ B
 fit:mV B
 cA:Z B.cA<=16*n
 calls:B.calls<=n
section
variable {B:cJ}{n:Nat}
theorem mD.call(h:mD B n) c lay:mD (jF B c lay).1 (n+1):=by
 have h1:=(aAN h.inv c lay).2;have h2:(jF B c lay).1.cA=B.cA/\(jF B c lay).1.jn=B.jn/\(jF B c lay).1.dm=B.dm/\(jF B c lay).1.calls<=B.calls+1:=by grind [jF]
 exact amj
theorem mD.keep(h:mD B n) r:mD (gg B r).1 (n+1):=by
 have h1:=(aAO h.inv r).2;have h2:(gg B r).1.cA=B.cA/\(gg B r).1.jn=B.jn/\(gg B r).1.dm=B.dm/\(gg B r).1.calls=B.calls:=by grind [gg]
 exact amj
theorem mD.work(h:mD B n)(t:dq B):mD (iL B) (n+1):=by have j:=KK t;have:=h.cA;have:=h.calls;exact⟨(Yi h.inv).2,NF t h.fit,by rw[j.cA];omega,by rw[j.calls];omega⟩
theorem mD.handle(h:mD B n)(t:ic B) j b(hn:n<=50000):mD (jc B j b).1 (n+1):=by have:=h.cA;have:=h.calls;have y:=afL h.fit t.todq j b aZ;have:=Xo h.fit t j b aZ;exact⟨(Xn h.inv j b).2,y.1,aZ,aZ⟩
end
theorem ahj{α:Type}[DecidableEq α]{k:α}:∀ {bC:List (α×aQ)} {i:Nat},i6 k bC i=U->∀p∈bC,p.1≠k
 | [],_,_=>bu
 | q :: r,i,h=>by unfold i6 at h;split at h;cases h;rename_i t;intro p j;rcases List.mem_cons.1 j with rfl|j;exact t;exact ahj h p j
theorem Fz.put{l bC W}(h:Fz l bC W)(hn:(l.map (·.1)).Nodup){k m v}(hm:nU m v W):Fz (oT l k m) (uK bC k v) W:=by
 have A:=h.1;cases hi:i6 k bC 0 with
 | none =>
  have t:=ahj hi;have B:¬(l.any λp=>decide (p.1=k))=true:=by rw[List.any_eq_true];rintro ⟨p,H,e⟩;obtain⟨j,hj,rfl⟩:=List.mem_iff_getElem.1 H;have:=(h.2 j aZ hj).1;exact t _ (dJ (show j<Z bC by omega)) (this.trans Oc)
  unfold oT uK;rw[hi,bQ B];refine⟨by simp[A],λj N h4=>?_⟩;by_cases hj:j<Z l;rw[List.getElem_append_left (show j<Z bC by omega),List.getElem_append_left hj];exact h.2 j _ _;have e:j=Z l:=by simp at h4;omega
  subst e;rw[List.getElem_append_right aZ,List.getElem_append_right aZ];simpa [A]using hm
 | some x =>
  obtain⟨i,Q⟩:=x;obtain⟨-,t⟩:=Xz hi;rw[Nat.sub_zero]at t;obtain⟨O,t⟩:=aF.1 t;have z:i<Z l:=aZ;have hk:l[i].1=k:=by rw[<- (h.2 i O z).1,t]
  have B:(l.any λp=>decide (p.1=k))=true:=by rw[List.any_eq_true];exact⟨l[i],dJ z,vP⟩
  unfold oT uK;rw[hi,bV B];refine⟨by simp[A],λj N h4=>?_⟩;have hj:j<Z l:=IM;rw[List.getElem_modify,List.getElem_map];by_cases e:i=j;subst e;rw[bV rfl,bV hk,t];exact⟨rfl,hm⟩;have M:l[j].1≠k:=λC=>e (by
   have:=List.nodup_iff_pairwise_ne.1 hn;rw[List.pairwise_iff_getElem]at this;rcases Nat.lt_trichotomy i j with y|y|y;have g:=this i j (by simpa using z) GF y;simp[hk,C]at g;exact y;have g:=this j i GF (by simpa using z) y;simp[hk,C]at g)
  rw[bQ e,bQ M];exact h.2 j _ _
theorem df.report{M p B w w'}(h:df M p B w){k m v}(hm:fP encI w' p.gr (uK p.kr k v))(hg:w.grownBy w' (I p.gr))(hn:(B.dm.map (·.1)).Nodup)(C:Fx M (λW=>nU m v W) w):df M { p with kr:=uK p.kr k v } { B with dm:=oT B.dm k m } w':=by
 obtain⟨H,N,O,A,Q⟩:=h.apart;have u:bf (λk=>k=p.gr) w w':=bf.gy hg λk e=>bL
 have z:=u.more λk t=>h.sub k (t▸aJ (aI rfl))
 refine⟨h.blk.cF u H,h.lg.cF u λk t e=>A (e▸t),hm,h.zk.cF u λe=>h.ne e.symm,λW y=>?_,h.sub,λk t=>cZ (h.low k t) u.size,h.ne⟩;have j:=h.dz W (z.tr y);exact⟨j.par,j.bj,j.bq,j.bF,j.ab,j.bI,j.iy,j.dy,j.dm.put hn (C W (z.tr y))⟩
theorem awZ{M p B w}(h:df M p B w) k{m v}(hn:(B.dm.map (·.1)).Nodup)(y:Fx M (λW=>nU m v W) w) :∃j,(Instr.mapUpdate 159 (.map (I p.gr)) (G J k) v).run aR w=.ok () j/\df M { p with kr:=uK p.kr k v } { B with dm:=oT B.dm k m } j/\bf (λk=>k=p.gr) w j:=by obtain⟨j,A,z,t⟩:=Gy (D3 (P:=aR) (kt:=3) underlying3) underlying159 h.rep k v;exact⟨j,A,h.report z t hn y,bf.gy t λk e=>bL⟩
section
variable {P:Program}{Q:Exit->Act->aP->Prop}
theorem Lk.aFi{ops T C N A Le t z} Q(hpl:tR ops Q=aA)(hg:∀W W',C W->aN (D (L W)) W W'->C W')(hg0:∀W W',N W->aN (D (L W)) W W'->N W')(hg1:∀W W',A W->aN (D (L W)) W W'->A W')(st:∀f∈t,∀v w w',f v w->aN (D (L w)) w w'->f v w')(st2:∀j,j≠z->td Q z (Z Q) j=az->∀v w w',tab t j v w->Le w w'->tab t j v w') :∀(l:List Oper) (k:Nat) (R:List (List Nat×List (Nat×Nat))),Lk P T C N A Le (tab t) z k l R->OV P ops T (OW C N A t z) k l R:=by
 intro l;induction l with
 | nil=>intro k R _;exact trivial
 | cons o r ih =>
  intro k R h;cases R with
  | nil=>exact False.elim h
  | cons x xs =>
   refine⟨?_,ih _ _ h.2⟩;intro O V w Y hcl hal ⟨hc,X,S⟩;by_cases hkz:k=z
   .subst hkz;have y:=h.1;rw[bV rfl]at y;obtain⟨hgd,y⟩:=y;rw[Y]at X;simp only[Bool.false_eq_true,if_false]at X;have y:=y V w hc X λj B=>S j (hal j B)
    have next:∀v w',tab t k v w'->C w'->A w'->Le w w'->OW C N A t k (upd O k) (cP V k v) w':=by
     intro v w' hv hc' hd' H;have:upd O k k=true:=by simp[upd]
     refine⟨hc',bL,λj B=>?_⟩;unfold cP;by_cases M:j=k
     .grind
     rw[bQ M];have hLj:=(BL B).resolve_left M;refine st2 j M ?_ _ _ _ (S j hLj) H;cases hf:td Q k (Z Q) j with
     | false=>rfl
     | true=>rw[KM hpl hcl _ _ hf hLj]at Y;cases Y
    rw[hgd,bV (show dI V U=aA from rfl)];generalize (aL (bR x.2 T V) (bT o.op o.type)).run P w=q at *;cases q with
    | ok n w' =>
     cases n <;> simp only[T3]at y <;> simp only[lZ]
     case value v=>exact next _ _ y.1 y.2.1 y.2.2.1 y.2.2.2
     case skip=>exact next _ _ y.1 y.2.1 y.2.2.1 y.2.2.2
     case enter f args => apply dP y;rintro v w''⟨hv,hc',hd',H⟩;grind
    | halt x w'=>simp only[T3]at y
   have y:=h.1;rw[bQ hkz]at y;have y:=y V w hc λj B=>S j (hal j B)
   have next:∀v w',tab t k v w'->aN (D (L w)) w w'->OW C N A t z (upd O k) (cP V k v) w':=by
    intro v w' hv H;have:upd O k z=O z:=by simp[upd,Ne.symm hkz]
    refine⟨hg _ _ hc H,?_,λj B=>?_⟩
    .grind
    unfold cP;by_cases M:j=k
    .grind
    rw[bQ M];exact Xe (Le:=λw w'=>aN (D (L w)) w w') st _ _ _ _ (S j ((BL B).resolve_left M)) H
   by_cases hw:dI V o.guard=aA
   .rw[bV hw]at y|-;generalize (aL (bR x.2 T V) (bT o.op o.type)).run P w=q at *;cases q with
    | ok n w' =>
     cases n <;> simp only[fk]at y <;> simp only[lZ]
     case value v=>exact next _ _ y.1 y.2
     case skip=>exact next _ _ y.1 y.2
     case enter f args => apply dP y;rintro v w''⟨hv,H⟩;grind
    | halt x w'=>simp only[fk]at y
   rw[bQ hw]at y|-;exact next _ _ y (eP _ _)
theorem lZ.imp{R t}(h:∀v w,R v w->t v w){q}(j:lZ P R q):lZ P t q:=by
 cases q with
 | ok n y =>
  cases n <;> simp only[lZ]at j|-
  case value v=>exact h _ _ j
  case skip=>exact h _ _ j
  case enter f args => apply dP j;intro v A z;grind
 | halt x y=>simp only[lZ]at j
def aDW(P:Program)(t:Act)(C z:aP->Prop)(A:(Nat->Bool)->(Nat->aQ)->aP->Prop)(φ:Nat->aQ->aP->Prop)(k:Nat)(op:Op)(ty:TypeId)(gd:Option (Nat×Bool))(al:List Nat)(rd:List (Nat×Nat)):Prop :=
 gd=U/\∀(aT:Nat->Bool) (V:Nat->aQ) (w:aP),(∀j∈al,aT j=aA)->C w->z w->(∀j,aT j=aA->φ j (V j) w)->lZ P (λv y=>A (upd aT k) (cP V k v) y) ((aL (bR rd t V) (bT op ty)).run P w)
def aDX(P:Program)(z:Act)(t:(Nat->Bool)->(Nat->aQ)->aP->Prop)(k:Nat)(op:Op)(ty:TypeId)(gd:Option (Nat×Bool))(al:List Nat)(rd:List (Nat×Nat)):Prop :=
 gd=U/\∀(aT:Nat->Bool) (V:Nat->aQ) (w:aP),aT k=az->(∀j∈al,aT j=aA)->t aT V w->lZ P (λv y=>t (upd aT k) (cP V k v) y) ((aL (bR rd z V) (bT op ty)).run P w)
def Lm(P:Program)(j:Act)(C M t:aP->Prop)(Le:aP->aP->Prop)(A:(Nat->Bool)->(Nat->aQ)->aP->Prop)(φ:Nat->aQ->aP->Prop)(z y:Nat)(H B:List Nat):Nat->List Oper->List (List Nat×List (Nat×Nat))->Prop
 | _,[],_=>True
 | _,_ :: _,[]=>False
 | k,o :: r,x :: xs=>(if k=y then aDW P j C t A φ k o.op o.type o.guard x.1 x.2 else (if H.contains k=aA then True else aDX P j A k o.op o.type o.guard x.1 x.2)/\(if B.contains k=aA then True else Lk P j C M t Le φ z k [o] [x]))/\Lm P j C M t Le A φ z y H B (k+1) r xs
def Cc(C B H:aP->Prop)(t:List (aQ->aP->Prop))(z y:Nat)(A:(Nat->Bool)->(Nat->aQ)->aP->Prop)(j:Nat->Bool)(V:Nat->aQ)(w:aP):Prop:=if j y=aA then A j V w else OW C B H t z j V w
theorem Lm.toP{ops a0 C R O Le ag t z y T ET} B(hpl:tR ops B=aA)(hb:∀k∈T,td B k (Z B) y=aA)(ha:∀k∈ET,td B y (Z B) k=aA)(hz:z∈T)(hzy:z≠y)(hg:∀W W',C W->aN (D (L W)) W W'->C W')(hg0:∀W W',R W->aN (D (L W)) W W'->R W')(hg1:∀W W',O W->aN (D (L W)) W W'->O W')(st:∀f∈t,∀v w w',f v w->aN (D (L w)) w w'->f v w')(st2:∀j,j≠z->td B z (Z B) j=az->∀v w w',tab t j v w->Le w w'->tab t j v w') :∀(l:List Oper) (k:Nat) (Q:List (List Nat×List (Nat×Nat))),(∀i,ops[k+i]?=l[i]?)->(∀i,B[k+i]?=Q[i]?) ->Lm P a0 C R O Le ag (tab t) z y T ET k l Q->OV P ops a0 (Cc C R O t z y ag) k l Q:=by
 intro l;induction l with
 | nil=>intro k Q _ _ _;exact trivial
 | cons o r ih =>
  intro k Q ho hq h;cases Q with
  | nil=>exact False.elim h
  | cons x xs =>
   have hxk:B[k]?=I x:=hq 0;refine⟨?_,ih _ _ (λi=>by have:=ho (i+1);simpa [Nat.add_assoc,Nat.add_comm 1 i]using this) (λi=>by have:=hq (i+1);simpa [Nat.add_assoc,Nat.add_comm 1 i]using this) h.2⟩;have before:∀ {A:Nat->Bool} {j:Nat},Closed ops A->(∀i∈x.1,A i=aA)->td B j (Z B) k=aA->A j=true:=by
    intro A j Y S N;cases hn:Z B with
    | zero=>rw[hn]at N;cases N
    | succ n =>
     rw[hn]at N;unfold td at N;rw[hxk]at N;simp only[Bool.or_eq_true,List.contains_iff_mem,List.any_eq_true]at N;rcases N with N|⟨i,hi,N⟩
     .grind
     grind [KM]
   intro A V w tG Y S M;by_cases hky:k=y;subst hky;have H:=h.1;rw[bV rfl]at H;obtain⟨hgd,H⟩:=H;unfold Cc at M;rw[tG]at M;simp only[Bool.false_eq_true,if_false]at M;obtain⟨hc,hd,hp⟩:=M;have hLz:=before Y S (hb z hz);rw[bV hLz]at hd;have H:=H A V w S hc hd hp;rw[hgd,bV (show dI V U=aA from rfl)];have hkk:upd A k k=true:=by simp[upd]
   refine lZ.imp ?_ H;intro v w' X;unfold Cc;rw[bV hkk];exact X;have H:=h.1;rw[bQ hky]at H;obtain⟨ob1,ob2⟩:=H;cases MR:A y with
   | true =>
    have wy:T.contains k=false:=by
     cases hc:T.contains k with
     | false=>rfl
     | true => have:=KM hpl Y _ _ (hb k GH) MR;rw[tG]at this;cases this
    rw[wy]at ob1;simp only[Bool.false_eq_true,if_false]at ob1;obtain⟨hgd,H⟩:=ob1;unfold Cc at M;rw[bV MR]at M;have H:=H A V w tG S M;rw[hgd,bV (show dI V U=aA from rfl)];have JW:upd A k y=true:=by simp[upd,MR]
    refine lZ.imp ?_ H;intro v w' X;unfold Cc;rw[bV JW];exact X
   | false =>
    have hna:ET.contains k=false:=by
     cases hc:ET.contains k with
     | false=>rfl
     | true => have:=before Y S (ha k GH);rw[MR]at this;cases this
    rw[hna]at ob2;simp only[Bool.false_eq_true,if_false]at ob2;have e:=(Lk.aFi B hpl hg hg0 hg1 st st2 [o] k [x] ob2).1;unfold Cc at M;rw[MR]at M;simp only[Bool.false_eq_true,if_false]at M;have e:=e A V w tG Y S M;have JW:upd A k y=false:=by simp[upd,Ne.symm hky,MR]
    have key:∀v w',OW C R O t z (upd A k) (cP V k v) w'->Cc C R O t z y ag (upd A k) (cP V k v) w':=by intro v w' X;unfold Cc;rw[JW];simpa using X
    by_cases hw:dI V o.guard=aA;rw[bV hw]at e|-;exact lZ.imp key e;rw[bQ hw]at e|-;exact key _ _ e
theorem asw{id ops H w} z y N R C A B Le O l t n(hn:H.tmps.size=n)(hm:P.follows .mixedOrders=aA)(hok:rV ops n=aA)(S:tR ops t=aA)(hzb:N.contains z=aA)(hzy:z≠y)(hy:y<ops.size)(aFj:N.all (λk=>td t k (Z t) y)=aA)(aFk:R.all (λk=>td t y (Z t) k)=aA)(hg:∀W W',C W->aN (D (L W)) W W'->C W')(hg0:∀W W',A W->aN (D (L W)) W W'->A W')(hg1:∀W W',B W->aN (D (L W)) W W'->B W')(Y:C w.drew)(hD:A w.drew)(st:∀f∈l,∀v w w',f v w->aN (D (L w)) w w'->f v w')(st2:∀x∈l.zipIdx,(x.2==z||td t z (Z t) x.2)=aA\/∀v w w',x.1 v w->Le w w'->x.1 v w')(owed:Lm P H C A B Le O (tab l) z y N R 0 ops.toList t)(fin:∀(V:Nat->aQ) (w:aP),O (λj=>decide (j<ops.size)) V w->Q .normal (iO V ops.toList 0 H) w) :(Code.region id ops aA).wp P Q H w:=by
 have aFl:∀j,j≠z->td t z (Z t) j=az->∀v w w',tab l j v w->Le w w'->tab l j v w':=by
  intro j hjz hf v w w' T hm;unfold tab at *;cases hj:l[j]? with
  | none=>simp[List.getD_eq_getElem?_getD,hj]
  | some f =>
   simp only[List.getD_eq_getElem?_getD,hj,Option.getD_some]at T|-;rcases st2 (f,j) (List.mem_zipIdx_iff_getElem?.2 hj)with X|X
   .grind
   exact X v w w' T hm
 refine WE (Cc C A B l z y O) n hn hm hok ?_ (axk t S (Lm.toP t S (λk M=>List.all_eq_true.1 aFj k M) (λk M=>List.all_eq_true.1 aFk k M) (by simpa using hzb) hzy hg hg0 hg1 st aFl _ _ _ (λi=>bu) (λi=>bu) owed)) λV w h=>fin V w ?_
 unfold Cc;simp only[Bool.false_eq_true,if_false];exact⟨Y,iF,λ_ h=>kP⟩;unfold Cc at h;simpa [hy]using h
end
def RW(gw g:Nat)(n:Int)(l:List UInt8)(wr j:Bool)(W:aP):Prop:=bn W gw 320 #[aj (I ⟨g,0,U⟩),G J n,ar j]/\Rd W g l wr/\g<gw
abbrev XW(gw g:Nat):Nat->Prop:=λk=>k=g\/k=gw
section
variable {gw g:Nat}{n:Int}{l l':List UInt8}{wr bd wr' MS:Bool}{W W':aP}{X:Nat->Prop}
theorem RW.st(h:RW gw g n l wr bd W)(k:K W W'):RW gw g n l wr bd W':=⟨h.1.bM k,h.2.1.bM k,h.2.2⟩
theorem RW.lt(h:RW gw g n l wr bd W):gw<D (L W):=h.1.lt
theorem bf.went(H:qL g l' wr' W W')(j:X g):bf X W W':=bf.gy H.2 (by rintro k e;cases e;exact j)
theorem RW.went(h:RW gw g n l wr bd W)(H:qL g l' wr' W W'):RW gw g n l' wr' bd W':=⟨h.1.went H (by have:=h.2.2;omega),H.1,h.2.2⟩
theorem RW.bad(h:RW gw g n l wr bd W):RW gw g n l wr aA (aV W ⟨gw,2,U⟩ (ar aA)) :=
 ⟨h.1.cH 2 _,h.2.1.set h.2.2 2 _,h.2.2⟩
theorem RW.far(h:RW gw g n l wr bd W){b}(hb:gw<b) i u:RW gw g n l wr bd (aV W ⟨b,i,U⟩ u) :=
 ⟨h.1.far cN u,h.2.1.set (by have:=h.2.2;omega) i u,h.2.2⟩
end
theorem KD gw g n l wr y(j:Nat) w(h:RW gw g n l wr y w)(_:j<18446744073709551616) :aK aR 240 #[aj (I ⟨gw,0,U⟩),G E j] w λe H =>e=ak (G E ((nP j l wr y).1:Int))/\RW gw g n (nP j l wr y).2.1 (nP j l wr y).2.2.1 (nP j l wr y).2.2.2 H/\bf (XW gw g) w H:=by
 have B:=aY (vN g l wr w h.2.1);unfold nP;generalize bJ l wr=a at *;obtain⟨x,R,Q⟩:=a;simp only at B|-;have q:=h.1.cell;by_cases M:x<j
 .have N:¬(j:Int)<=x:=aZ;rw[bV M];simp only;go_in;go_wp2_with fail
  apply bW B.aX;intro O t;have A:=h.went t;have C:=bf.went (X:=XW gw g) t (aI rfl);go_wp2;go_ret;exact⟨rfl,A,C⟩
 have N:(j:Int)<=x:=aZ;rw[bQ M];simp only;go_in;go_wp2_with fail
 apply bW B.aX;intro O t;have A:=h.went t;have C:=bf.went (X:=XW gw g) t (aI rfl);have q:=A.1.cell;have:=A.1.frozen;go_wp2;go_ret;exact⟨rfl,A.bad,C.tr (bf.dx (X:=XW gw g) (aJ rfl) 2 _)⟩
theorem aeX gw g n l wr t w(h:RW gw g n l wr t w) :aK aR 246 #[aj (I ⟨gw,0,U⟩)] w λe w' =>e=ak (av (eI (kp l wr t).1))/\RW gw g n (kp l wr t).2.1 (kp l wr t).2.2.1 (kp l wr t).2.2.2 w'/\bf (XW gw g) w w':=by
 have A:=λW hW=>KD gw g n l wr t 16 W hW aZ
 have hlt:=DF 16 aZ l wr t;unfold kp GU oq Fw;generalize nP 16 l wr t=a at *;obtain⟨x,l1,gZ,iD⟩:=a;simp only at A hlt|-;have C:=vN g l1 gZ;generalize bJ l1 gZ=a at *;obtain⟨y,l2,wr2⟩:=a;simp only at C|-;have N:=vN g l2 wr2;generalize bJ l2 wr2=a at *;obtain⟨z,l3,FK⟩:=a;simp only at N|-;rw[show ((16:Nat):Int)=16 from rfl]at A;replace A:=aY A;replace C:=aY C;replace N:=aY N;have:J.wrap (x:Int)=x:=OB;have fU:=bn.new w 42 #[G J 0,G E 0,G E 0];have h0:=h.st ((K.rf w).al (aq #[G J 0,G E 0,G E 0] 42));have u0:=bf.al (XW gw g) w (aq #[G J 0,G E 0,G E 0] 42);have V:=h.lt;have:=h.2.2;go_in;go_wp2_with fail
 generalize w.alloc _=w1 at *;apply bW (A.aX w1 h0);rintro B⟨h2,O⟩;have:=fU.lt;have dC:=fU.cF O aZ;have u02:=u0.tr O;have:=O.size;have jX:=bn.new B 42 #[G J x,G E 0,G E 0];have gX:=dC.alloc (aq #[G J x,G E 0,G E 0] 42);have T:=h2.st ((K.rf B).al (aq #[G J x,G E 0,G E 0] 42));have u03:=u02.tr (bf.al (XW gw g) B (aq #[G J x,G E 0,G E 0] 42));go_upto_region 2 with fail;generalize B.alloc _=w3 at *;generalize D (L B)=j at *;have q:=T.1.cell;go_wp2_with fail
 apply bW (C.aX w3 T.2.1);intro w4 M;have h4:=T.went M;have iq:=gX.went M aZ;have R:=jX.went M aZ;have u04:=u03.tr (bf.went (X:=XW gw g) M (aI rfl));have q:=R.cell;have z1:=R.frozen;go_upto_region 3 with fail;have gJ:bn (aV w4 ⟨j,1,U⟩ (G E y)) j 42 #[G J x,G E y,G E 0]:=R.cH 1 _;have Q:=h4.far (b:=j) aZ 1 (G E y);have lG:=iq.far (p:=⟨j,1,U⟩) cN (G E y);have u05:=u04.fresh (b:=j) aZ 1 (G E y);generalize w4.setCell _ _=w5 at *;have q:=Q.1.cell;go_wp2_with fail
 apply bW (N.aX w5 Q.2.1);intro w6 H;have h6:=Q.went H;have um:=lG.went H aZ;have Y:=gJ.went H aZ;have u06:=u05.tr (bf.went (X:=XW gw g) H (aI rfl));have q:=Y.cell;have z1:=Y.frozen;go_upto_region 4 with fail;have sG:bn (aV w6 ⟨j,2,U⟩ (G E z)) j 42 #[G J x,G E y,G E z]:=Y.cH 2 _;have h7:=h6.far (b:=j) aZ 2 (G E z);have S:=um.far (p:=⟨j,2,U⟩) cN (G E z);have u07:=u06.fresh (b:=j) aZ 2 (G E z);generalize w6.setCell _ _=w7 at *;have q:=sG.cell;have:=S.cell;have z1:=S.frozen;go_wp2;have fF:=((S.cH 0 (G J x)).cH 1 (G E y)).cH 2 (G E z);have h9:=((h7.far (b:=D (L w)) V 0 (G J x)).far (b:=D (L w)) V 1 (G E y)).far (b:=D (L w)) V 2 (G E z);have u09:=((u07.fresh (b:=D (L w)) (bP _) 0 (G J x)).fresh (b:=D (L w)) (bP _) 1 (G E y)).fresh (b:=D (L w)) (bP _) 2 (G E z);have e9:=fF.cell;refine aM (v:=av #[G J x,G E y,G E z]) (by simp[results,results246,go_sem,e9]) rfl ?_;exact⟨rfl,h9,u09⟩
theorem asx gw g n l wr A w(h:RW gw g n l wr A w) :aK aR 242 #[aj (I ⟨gw,0,U⟩)] w λe w' =>e=ak (av (jA (pV l wr A).1))/\RW gw g n (pV l wr A).2.1 (pV l wr A).2.2.1 (pV l wr A).2.2.2 w'/\bf (XW gw g) w w':=by
 have C:=λW T=>aeX gw g n l wr A W T
 unfold pV GU oq;generalize kp l wr A=a at *;obtain⟨x,l1,Y,X⟩:=a;simp only at C|-;have B:=λW T=>KD gw g n l1 Y X 2 W T aZ
 have hlt:=DF 2 aZ l1 Y X;generalize nP 2 l1 Y X=a at *;obtain⟨y,l2,wr2,bd2⟩:=a;simp only at B hlt|-;rw[show ((2:Nat):Int)=2 from rfl]at B;replace C:=aY C;replace B:=aY B;obtain⟨b,S⟩:∃b:Bool,b=decide (y=1):=⟨_,rfl⟩;have:((y:Int)==1)=b:=by rw[S,Bool.eq_iff_iff];simp;omega
 rw[<- S];clear S;have V:=bn.new w 300 #[G J 0,G E 0,G E 0,ar az];have h0:=h.st ((K.rf w).al (aq #[G J 0,G E 0,G E 0,ar az] 300));have u0:=bf.al (XW gw g) w (aq #[G J 0,G E 0,G E 0,ar az] 300);have R:=h.lt;have:=h.2.2;clear h;obtain⟨j,z,t⟩:=x;go_in;go_wp2_with fail
 generalize w.alloc _=w1 at *;apply bW (C.aX w1 h0);rintro H⟨h2,N⟩;have:=V.lt;have dC:=V.cF N aZ;have u02:=u0.tr N;have:=N.size;have jX:=bn.new H 300 #[G J j,G E z,G E t,ar az];have gX:=dC.alloc (aq #[G J j,G E z,G E t,ar az] 300);have h3:=h2.st ((K.rf H).al (aq #[G J j,G E z,G E t,ar az] 300));have u03:=u02.tr (bf.al (XW gw g) H (aq #[G J j,G E z,G E t,ar az] 300));clear h0 V u0 dC h2 N u02 C;go_upto_region 2 with fail;generalize H.alloc _=w3 at *;generalize D (L H)=M at *;go_wp2_with fail
 apply bW (B.aX w3 h3);rintro w4⟨h4,O⟩;have iq:=gX.cF O aZ;have Q:=jX.cF O aZ;have u04:=u03.tr O;clear h3 gX jX u03 O B;have q:=Q.cell;have z1:=Q.frozen;go_upto_region 3 with fail;have gJ:bn (aV w4 ⟨M,3,U⟩ (ar b)) M 300 #[G J j,G E z,G E t,ar b]:=Q.cH 3 _;have h5:=h4.far (b:=M) aZ 3 (ar b);have lG:=iq.far (p:=⟨M,3,U⟩) cN (ar b);have u05:=u04.fresh (b:=M) aZ 3 (ar b);clear q z1 Q h4 iq u04;generalize w4.setCell _ _=w5 at *;have q:=gJ.cell;have:=lG.cell;have z1:=lG.frozen;go_wp2;have fF:=(((lG.cH 0 (G J j)).cH 1 (G E z)).cH 2 (G E t)).cH 3 (ar b);have h9:=(((h5.far (b:=D (L w)) R 0 (G J j)).far (b:=D (L w)) R 1 (G E z)).far (b:=D (L w)) R 2 (G E t)).far (b:=D (L w)) R 3 (ar b);have u09:=(((u05.fresh (b:=D (L w)) (bP _) 0 (G J j)).fresh (b:=D (L w)) (bP _) 1 (G E z)).fresh (b:=D (L w)) (bP _) 2 (G E t)).fresh (b:=D (L w)) (bP _) 3 (ar b);have e9:=fF.cell;refine aM (v:=av #[G J j,G E z,G E t,ar b]) (by simp[results,results242,go_sem,e9]) rfl ?_;exact⟨rfl,h9,u09⟩
theorem XK{W W' b T C A n xs}(z:Reads W (D (L W)) C A n xs)(hb:bn W b T jx)(R:xs=[]\/∃u∈xs,u∉jx.toList)(N:D (L W)<=D (L W'))(hk:∀k,k<D (L W)->k≠b->W'.heap[k]?=W.heap[k]?):Reads W' (D (L W')) C A n xs:=by
 refine⟨z.1,λQ=>?_⟩;obtain⟨g,y,e,B,H⟩:=z.2 Q;have M:g≠b:=by
  rintro rfl;rcases R with rfl|⟨u,P,S⟩
  .grind
  obtain⟨j,t⟩:=List.mem_iff_getElem?.1 P;have O:=H j u t;rw[hb.cell]at O;grind
 refine⟨g,y,e,cZ B N,λj u t=>?_⟩;rw[World.cell?_of_block (w:=W) (w':=W') (a:=⟨g,y+j,U⟩) (hk g B M)];exact H j u t
theorem aB2(l:List eD):l.flatMap nu=[]\/∃u∈l.flatMap nu,u∉jx.toList:=amk
theorem aB3(l:List fo):l.flatMap je=[]\/∃u∈l.flatMap je,u∉jx.toList:=amk
theorem aB4{W W' b T x v}(h:fM x v W)(X:∀e∈x.es,e≠[])(hb:bn W b T jx)(y:D (L W)<=D (L W'))(hk:∀k,k<D (L W)->k≠b->W'.heap[k]?=W.heap[k]?):fM x v W':=by
 obtain⟨vf,Y,rfl,⟨A,c,rfl,N⟩,R,d,rfl,⟨z,j,Q⟩,M⟩:=h;refine⟨_,_,rfl,⟨A,c,rfl,XK N hb (aB3 _) y hk⟩,R,d,rfl,⟨z,⟨j.1,λi S O=>?_⟩,XK Q hb ?_ y hk⟩,M⟩;obtain⟨v,e,t,c1,rfl,B⟩:=j.2 i S O;exact⟨_,e,t,c1,rfl,XK B hb (aB2 _) y hk⟩;cases hes:x.es with
 | nil => refine aI (List.eq_nil_of_length_eq_zero ?_);rw[j.D2,hes];rfl
 | cons V es =>
  have C:0<Z x.es:=bL;have H:0<Z z:=by rw[j.1];exact C
  obtain⟨v,e,t,c1,rfl,B⟩:=j.2 0 C H;refine aJ ⟨F t (Z x.es[0]) c1,List.mem_flatten.2 ⟨z[0],dJ H,bL⟩,?_⟩;simp_all
theorem ayS b:∀e∈(om b).es,e≠[]:=by
 unfold om;cases hd:j8 b with
 | none=>simp[fS]
 | some x => intro e j;obtain⟨-,-,t⟩:=Gs (Xg hd).2;grind [om,iM]
def Cu(gb:Nat)(x:bU)(u:aQ)(W:aP):Prop:=∀j,bf (λk=>k<gb) W j->fM x u j
theorem aml gb x:∀v w j,Cu gb x v w->aN (D (L w)) w j->Cu gb x v j:=by rintro v w j h k;exact λt u=>h t ((bf.cz k _).tr u)
def UA(gb:Nat)(x:bU)(c:Int)(v:aQ)(W:aP):Prop:=∃u,v=au #[u,G J c]/\Cu gb x u W
theorem aB5 gb x c:∀v w j,UA gb x c v w->aN (D (L w)) w j->UA gb x c v j:=by rintro v w j⟨u,e,h⟩ k;exact⟨u,e,aml _ _ _ _ _ h k⟩
def Px(gb:Nat)(T:TypeId)(v:aQ)(W:aP):Prop:=∃b,v=aj (I ⟨b,0,U⟩)/\gb<=b/\bn W b T jx
theorem aB6 gb T:∀v w j,Px gb T v w->aN (D (L w)) w j->Px gb T v j:=by rintro v w j⟨b,e,t,y⟩ k;exact⟨b,e,t,y.bM k⟩
theorem aAP{gb g T}(hg:g<gb):∀v w j,Px gb T v w->w.grownBy j (I g)->Px gb T v j:=by rintro v w j⟨b,e,t,y⟩ k;exact⟨b,e,t,y.grown k bL⟩
theorem ah1{gb x u w w' b T}(h:Cu gb x u w)(M:∀e∈x.es,e≠[])(hb:bn w b T jx)(hg:w.grownBy w' (I b)):Cu gb x u w':=by
 intro y up;obtain⟨j,z⟩:∃j:aP,j={ y with heap:=y.heap.setIfInBounds b (aq jx T (0,0)) }:=⟨_,rfl⟩;have:=cZ hb.lt (cQ hg.size up.size);have B:bn j b T jx:=by grind [bn]
 have C:∀k,k≠b->j.heap[k]?=y.heap[k]?:=by grind
 have H:D (L j)=D (L y):=bL;have N:bf (λk=>k<gb) w j:=by refine⟨?_,?_,?_,by rw[H];exact cQ hg.size up.size,λk A O=>?_⟩;rw[z];exact up.os.trans hg.os;rw[z];exact up.tape.trans hg.tape;rw[z];exact up.output.trans hg.output;by_cases t:k=b;subst t;exact B.trans hb.symm;rw[C k t,up.block k (cZ A hg.size) O];exact hg.block k A bL
 exact aB4 (h j N) M B aZ (λk _ t=>(C k t).symm)
theorem avs{P ρ w} s x T ty t g o cur cells(hs:ρ s=aj (I ⟨g,o,U⟩))(hx:ρ x=av cells)(hb:bn w g t cur)(hi:(P.info? T).map (·.size)=I cells.size)(y:o+cells.size<=cur.size)(h1:∀u∈cells.toList,u.oneCell'=aA) :∃j,(aL ρ (bT (.store T s x) ty)).run P w=.ok .skip j/\bn j g t (cur.toList.take o++cells.toList++cur.toList.drop (o+cells.size)).toArray/\w.grownBy j (I g):=akL
theorem asr gw g n l wr z w(h:RW gw g n l wr z w)(hl:Z l<=1000000000)(hn0:0<=n)(fR:n<=1000000000) :aK aR 244 #[aj (I ⟨gw,0,U⟩)] w λe j =>∃v,e=ak v/\Cu (D (L w)) (kV n l wr z).1 v j/\RW gw g n (kV n l wr z).2.1 (kV n l wr z).2.2.1 (kV n l wr z).2.2.2 j/\bf (XW gw g) w j:=by
 have C1:=λW (hW:Rd W g l wr)=>NA g l wr n W hW hl aZ aZ
 have MT:=KR n l wr;unfold kV;generalize cD n l wr=a at *;obtain⟨bs,l1,gZ⟩:=a;simp only at C1 MT|-;have hne:=ayS bs;have C2:=λW v (hv:sl bs v W)=>WH bs v W hv aZ
 obtain⟨t,I8⟩:∃t,t=B6 bs:=⟨_,rfl⟩;obtain⟨x,hx⟩:∃x,x=om bs:=⟨_,rfl⟩;have HC:Hid (t=0/\(z||(j8 bs).isNone)=z\/t=110/\(z||(j8 bs).isNone)=aA):=aY (by
  rw[I8];unfold B6;cases j8 bs <;> simp)
 simp only[<- I8,<- hx]at C2 hne|-;clear I8 hx;generalize (z||(j8 bs).isNone)=bd9 at *;have C1:=aY C1;have C2:=aY C2;have HN:=aY hne;clear hne;have fU:=bn.new w 128 jx;have h0:=h.st ((K.rf w).al (aq jx 128));have u0:=bf.al (XW gw g) w (aq jx 128);have ia:=h.lt;have hgg:=h.2.2;clear h;go_in;go_upto_region 1 with fail;generalize w.alloc _=w1 at *;obtain⟨gb,hgb⟩:∃gb,gb=D (L w1):=⟨_,rfl⟩;have PO:D (L w)<gb:=by rw[hgb];exact fU.lt
 obtain⟨C,hC⟩:∃C:aP->Prop,C=λW=>bf (XW gw g) w W/\gb<=D (L W)/\bn W (D (L w)) 128 jx/\bn W gw 320 #[aj (I ⟨g,0,U⟩),G J n,ar z]:=⟨_,rfl⟩
 have hg:∀W B,C W->aN (D (L W)) W B->C B:=by subst hC;rintro W B⟨N,h2,h3,h4⟩ hb;exact⟨N.tr (bf.cz hb _),cQ h2 hb.size,h3.bM hb,h4.bM hb⟩
 have hc0:C w1:=by rw[hC];exact⟨u0,by omega,fU,h0.1⟩
 obtain⟨ag,hF⟩:∃ag:(Nat->Bool)->(Nat->aQ)->aP->Prop,ag=λaT V W=>C W/\RW gw g n l1 gZ z W/\(∃u,V 10=au #[u,G J t])/\(aT 12=aA->V 12=G J t)/\(aT 15=aA->V 15=G J t) /\
  ∃b vf ve,V 13=aj (I ⟨b,0,U⟩)/\gb<=b/\bn W b 128 (cB x vf ve)/\Cu gb x (av (cB x vf ve)) W:=⟨_,rfl⟩
 refine asw 8 14 [0,1,2,3,4,5,6,7,8,9,10,11,13] [15] C (λW=>RW gw g n l wr z W) (λW=>RW gw g n l1 gZ z W) (λW B=>W.grownBy B (I g)) ag [bS (aj (I ⟨gw,0,U⟩)),
  bS (aj (I ⟨gw,0,U⟩)),
  bS (aj (I ⟨gw,0,U⟩)),
  bS (aj (I ⟨g,0,U⟩)),
  bS (aj (I ⟨gw,0,U⟩)),
  bS (aj (I ⟨gw,0,U⟩)),
  bS (aj (I ⟨gw,1,U⟩)),
  bS (G J n),
  sl bs,
  UA gb x t,
  UA gb x t,
  Cu gb x,
  bS (G J t),
  Px gb 128,
  T4,
  bS (G J t)]
  [([],[]),([0],[(6,0)]),([1],[(7,1)]),([2],[(8,2)]),([],[]),([4],[(10,4)]),([5],[(11,5)]),([6],[(12,6)]),([3,7],[(9,3),(13,7)]),([8],[(14,8)]),([9],[(15,9)]),([10],[(5,10)]),([10],[(5,10)]),([],[]),([10,13,11],[(3,13),(16,11)]),([12,14],[(17,12)])] 24 rfl dH dH dH bG bG bG dH dH hg (λW B h k=>h.st k) (λW B h k=>h.st k) (by exact hg _ _ hc0 (Below.drew (eP _ _))) (h0.st (Below.drew (eP _ _))) ?st ?st2 ?ow ?_
 case st => simp only[dN];and_intros;all_goals first|exact aCI _|exact aA9|exact qK _|exact aB5 _ _ _|exact aml _ _|exact aB6 _ _|simp
 case st2 => simp only[List.zipIdx_cons,List.zipIdx_nil,dN,mr,Nat.reduceAdd];and_intros;all_goals first|exact aI rfl|exact aJ (λ_ _ _ h _=>h)|exact aJ (aAP aZ)|simp
 case ow =>
  simp only[Lm,Lk,List.contains_cons,List.contains_nil,Nat.reduceBEq,Bool.or_false,Bool.or_true,Bool.false_eq_true,if_true,if_false,Nat.reduceEqDiff,Nat.reduceAdd,and_true,true_and];and_intros;all_goals try trivial
  all_goals
   first
   | (intro V j H M
      rw[hC]at H
      obtain⟨S,LF,Q,fY⟩:=H
      have q:=fY.cell
      try simp only[dN,dK,dL,bS]at M
      try (simp[dI,bR,aC,M,dK,dL,fk,aL,bT,bS,undef,eP,q,go_sem];done))
   | skip
  .have hD:=M;intro hp2;simp only[dN,dK,dL,bS]at hp2;simp[bR,aC,hp2,dK,dL,T3,aL,bT,go_sem];refine (C1.aX j hD.2.1).mono ?_;rintro e w2⟨v,rfl,qR,hw⟩;refine⟨v,rfl,qR,?_,hD.went hw,hw.2⟩;rw[hC];exact⟨S.tr (bf.went hw (aI rfl)),cQ LF hw.2.size,Q.went hw aZ,fY.went hw aZ⟩
  .simp[dI,bR,aC,dK,dL,fk,aL,bT,go_sem];refine (C2.aX j (V 8) M.1).mono ?_;rintro e w2⟨v,rfl,he,k⟩;exact⟨_,rfl,⟨v,rfl,λB u=>he B (u.vu (λk N _ _ hx=>aZ))⟩,k⟩
  .obtain⟨⟨u,e9,N⟩,-⟩:=M;simp[e9,dI,bR,aC,dK,dL,fk,aL,bT,go_sem];exact⟨N,eP _ _⟩
  .intro aT V j tG hal QX;rw[hF]at QX|-;obtain⟨H,T,⟨u,e9⟩,-,Ki,hrest⟩:=QX;generalize hA:bR [(5,10)] _ V=Gj;have e5:Gj (.tmp 5)=au #[u,G J t]:=by rw[<- hA];exact e9
   have hrun:(aL Gj (bT (.extract (.tmp 5) 1) 29)).run aR j=.ok (.value (G J t)) j:=by simp[e5,aL,bT,go_sem]
   rw[hrun];refine⟨H,T,⟨u,iF⟩,λ_=>dH,λh=>?_,?_⟩;have:=Ki iF;simpa [cP]using this;assumption
  .obtain⟨⟨u,e9,N⟩,-⟩:=M;simp[e9,dI,bR,aC,dK,dL,fk,aL,bT,bS,eP,go_sem]
  .simp[dI,dK,dL,fk,aL,bT,go_sem];exact⟨⟨D (L j),rfl,LF,bn.new _ _ _⟩,(K.rf j).al _⟩
  intro aT V j hal H T M;have hd':=T;have f10:=M 10 (hal 10 bu);have f11:=M 11 (hal 11 bu);have f13:=M 13 (hal 13 bu);have f12:=M 12;have f15:=M 15;simp only[dK,dL,bS]at f10 f11 f13 f12 f15;obtain⟨u10,iV,-⟩:=f10;obtain⟨b,Ga,rG,hblk⟩:=f13;obtain⟨vf,ve,sP,hf,he⟩:=f11 j (bf.rf _ _);rw[sP]at f11;generalize hA:bR [(3,13),(16,11)] _ V=Gj;have es4:Gj (.tmp 3)=aj (I ⟨b,0,U⟩):=by rw[<- hA];exact Ga
  have ex4:Gj (.tmp 16)=av (cB x vf ve):=by rw[<- hA];exact sP
  obtain⟨w'',hrun,hb2,A⟩:=avs (P:=aR) (ρ:=Gj) (.tmp 3) (.tmp 16) 128 0 128 b 0 jx (cB x vf ve) es4 ex4 hblk dH bu (cL.one (x:=x) (w:=j) ⟨vf,ve,rfl,hf,he⟩);rw[hrun];rw[hC]at H;obtain⟨S,LF,Q,fY⟩:=H;have Y:aN gb j w'':=⟨A.os,A.tape,A.output,A.size,λi hi=>A.block i (cZ hi LF) bL⟩;show ag _ _ w'';rw[hF];refine⟨?_,⟨hd'.1.below Y aZ,hd'.2.1.below Y aZ,hd'.2.2⟩,⟨u10,iF⟩,λh=>?_,λh=>?_,b,vf,ve,iF,rG,hb2,ah1 f11 HN.aX hblk A⟩;rw[hC];exact⟨⟨A.os.trans S.os,A.tape.trans S.tape,A.output.trans S.output,cQ S.size A.size,λk R hx=>(Y.block k aZ).trans (S.block k R hx)⟩,cQ LF A.size,Q.below Y aZ,fY.below Y aZ⟩;have:=f12 iF;simpa [cP]using this;have:=f15 iF;simpa [cP]using this;intro aT V j tG hal QX;rw[hF]at QX|-;obtain⟨H,T,he,h12,-,hrest⟩:=QX;have JZ:=h12 (hal 12 bu);generalize hA:bR [(17,12)] _ V=Gj;have e5:Gj (.tmp 17)=G J t:=by rw[<- hA];exact JZ
  have hrun:(aL Gj (bT (.assign (.tmp 17)) 29)).run aR j=.ok (.value (G J t)) j:=by simp[e5,aL,bT,go_sem]
  rw[hrun];refine⟨H,T,iF,λ_=>iF,λ_=>dH,iF⟩
 intro V W QT;rw[hF]at QT;obtain⟨H,T,-,-,Ki,b,vf,ve,Ga,rG,hblk,G7⟩:=QT;have vG:=Ki bG;rw[hC]at H;obtain⟨S,LF,Q,-⟩:=H;obtain⟨nc,JJ,e9,hf,he⟩:=G7 W (bf.rf _ _);obtain⟨rfl,rfl⟩:vf=nc/\ve=JJ:=by grind
 obtain⟨A9,c9,rfl⟩:=dX hf;obtain⟨D9,d9,rfl⟩:=bH he;have pZ:=aY G7;clear hF hC hg hc0 G7 hf he e9 Ki h0 u0 fU C1 C2;simp only[iO,Act.put,xm,vU,vT,Ga,vG];have aKE:D (L w)<b:=aZ;have fin:∀(O:aP) (iD:Bool),bf (XW gw g) w O->bn O (D (L w)) 128 jx->RW gw g n l1 gZ iD O->Cu (D (L w)) x (av (cB x (F A9 (Z x.f) c9) (F D9 (Z x.es) d9))) O ->∃W9,W9=ei O (D (L w)) 0 (cB x (F A9 (Z x.f) c9) (F D9 (Z x.es) d9)).toList/\bn W9 (D (L w)) 128 (cB x (F A9 (Z x.f) c9) (F D9 (Z x.es) d9))/\Cu (D (L w)) x (av (cB x (F A9 (Z x.f) c9) (F D9 (Z x.es) d9))) W9/\RW gw g n l1 gZ iD W9/\bf (XW gw g) w W9:=by intro O iD N h2 h3 h4;have y:=bf.sets (X:=λk=>k=D (L w)) (g:=D (L w)) rfl (cB x (F A9 (Z x.f) c9) (F D9 (Z x.es) d9)).toList 0 O;have fF:=(((((((h2.cH 0 (G J x.bA)).cH 1 (G J x.br)).cH 2 (G E x.life)).cH 3 (G E x.eY)).cH 4 (G J x.cl)).cH 5 (G E x.sub)).cH 6 (F A9 (Z x.f) c9)).cH 7 (F D9 (Z x.es) d9);have A:O.grownBy (ei O (D (L w)) 0 (cB x (F A9 (Z x.f) c9) (F D9 (Z x.es) d9)).toList) (I (D (L w))):=⟨y.os,y.tape,y.output,y.size,λk R hne=>y.block k R bL⟩;have Y:aN (D (L w)) O (ei O (D (L w)) 0 (cB x (F A9 (Z x.f) c9) (F D9 (Z x.es) d9)).toList):=⟨y.os,y.tape,y.output,y.size,λk R=>y.block k (Nat.lt_trans R h2.lt) aZ⟩;exact⟨_,rfl,fF,ah1 h4 HN.aX h2 A,⟨h3.1.below Y ia,h3.2.1.below Y aZ,h3.2.2⟩,⟨y.os.trans N.os,y.tape.trans N.tape,y.output.trans N.output,cQ N.size y.size,λk R hx=>(Y.block k R).trans (N.block k R hx)⟩⟩
 have aoZ:=aY fin;have anW:Cu (D (L w)) x (av (cB x (F A9 (Z x.f) c9) (F D9 (Z x.es) d9))) W:=λB up=>pZ.aX B ⟨up.os,up.tape,up.output,up.size,λk R hx=>up.block k R aZ⟩
 clear fin pZ;rcases HC.aX with ⟨rfl,rfl⟩|⟨rfl,rfl⟩;have q:=hblk.cell;have y1:=Q.cell;have z1:=Q.frozen;obtain⟨W9,MA,cV,Eu,Bg,MU⟩:=aoZ.aX W bd9 S Q T anW;exact amm;have q:=hblk.cell;have y1:=Q.cell;have z1:=Q.frozen;have q2:=T.1.cell;have z2:=T.1.frozen;have ub:=bf.dx (W:=W) (X:=λk=>k<D (L w)) (b:=gw) ia 2 (ar aA);obtain⟨W9,MA,cV,Eu,Bg,MU⟩:=aoZ.aX (aV W ⟨gw,2,U⟩ (ar aA)) aA (S.tr (bf.dx (X:=XW gw g) (aJ rfl) 2 _)) (Q.far (p:=⟨gw,2,U⟩) cN _) T.bad (λB up=>anW B (ub.tr up));exact amm
theorem aDc:(prog.info? 300).map (λi=>(i.zero,i.size,i.bytes))=I (I (av #[G J 0,G E 0,G E 0,ar az]),4,32):=by rfl
theorem aDY:gQ aR 237 300 (av #[G J 0,G E 0,G E 0,ar az]) 4 32:=⟨underlying237,aDc,rfl,bG⟩
theorem aB7:(prog.info? 42).map (λi=>(i.zero,i.size,i.bytes))=I (I (av #[G J 0,G E 0,G E 0]),3,24):=by rfl
theorem TID:gQ aR 53 42 (av #[G J 0,G E 0,G E 0]) 3 24:=⟨underlying53,aB7,rfl,bG⟩
theorem aAQ:(prog.info? 128).map (λi=>(i.zero,i.size,i.bytes))=I (I (av jx),8,96):=by rfl
theorem aDd:gQ aR 59 128 (av jx) 8 96:=⟨underlying59,aAQ,rfl,bG⟩
def qQ{α:Type}(S:fy α)(gb:Nat)(l:List α)(v:aQ)(W:aP):Prop:=∀j,bf (λk=>k<gb) W j->bD S l v j
theorem asy gw g n l y t w(h:RW gw g n l y t w)(_:Z l<=1000000000)(_:0<=n)(_:n<=1000000000) :aK aR 241 #[aj (I ⟨gw,0,U⟩),.func (Fn.func 242) #[] #[]] w λe O =>∃v,e=ak v/\qQ qV (D (L w)) (jy pV l y t).1 v O/\RW gw g n (jy pV l y t).2.1 (jy pV l y t).2.2.1 (jy pV l y t).2.2.2 O/\bf (XW gw g) w O:=by
 have S:=KD gw g n l y t 17 w h aZ;have hlt:=DF 17 aZ l y t;have lM:=(BK 17 aZ).len l y t;unfold jy;generalize nP 17 l y t=a at *;obtain⟨M,B,A,z⟩:=a;simp only at S hlt lM|-;rw[show ((17:Nat):Int)=17 from rfl]at S;have S:=aY S;have ia:=h.lt;have hgg:=h.2.2;have HQ:=aY (λk=>NL RD k B A z);clear h;have HR:Hid (ji pV M B A z=ji pV M B A z):=aY rfl;generalize Ij:ji pV M B A z=R at HR|-;have iu:=aY Ij;clear Ij HR;go_in;go_wp2_with fail
 apply bW S.aX;rintro w1⟨T,u1⟩;go_wp2_with fail
 go_loopw [5,8] (fun o i W=>∃j:Nat,j<=M/\i=G E j/\∃es H N C,Hid (ji pV j B A z=(es,H,N,C))/\RW gw g n H N C W/\Hid (cW (D (L w)) (D (L w)) 300 qV es o W)/\bf (XW gw g) w W) (fun _ i _=>M-(aO i).toNat)
 case atStart=>exact⟨0,aZ,rfl,[],B,A,z,aY rfl,T,aY (cW.nil _ _ _ _ _),u1⟩
 case round =>
  clear T u1;obtain⟨j,hj,rfl,es,H,N,C,HJ,F3,HO,uj⟩:=hrel;have V:=HQ.aX j;rw[HJ.aX]at V;simp only at V;obtain⟨js,rK⟩:=V;have anX:Z es<=17:=aZ;clear rK;have hzj:=uj.size;by_cases yC:j<M
  .have cE:(j:Int)<M:=aZ;have Er:Hid (ji pV (j+1) B A z=(es++[(pV H N C).1],(pV H N C).2)):=aY aap;go_wp2_with fail
   apply bW (asx gw g n H N C wr F3);rintro Q⟨Jp,u4⟩;generalize hX:pV H N C=X at *;obtain⟨x,lk,Gk,Gl⟩:=X;simp only at Jp;have Hm:Hid (ji pV (j+1) B A z=(es++[x],lk,Gk,Gl)):=aY aaq;have fC:=HO.aX.up (bP _) (u4.vu (lo:=D (L w)) (row:=U) (λk T _ _ hx=>aZ));have lr:=u4.size;obtain⟨bw,hown,hcl,xM⟩:=fC;have kA:=K.new Q (aq (jA x) 300);have hbase:D (L w)<=D (L (aU Q (aq (jA x) 300))):=OD;clear HO HJ Er hX;go_wp2_with (at_builtin;refine nZ rfl _ _ 237 rfl (D (L w)) 300 _ 4 32 aDY _ _ _ rfl (xj hown _) (D (L Q)+1) _ 1 1 (jA x).toList rfl ?c1 ?c2 ?c3 hbase ?_)
   case c1=>exact Reads.new Q (jA x).toList 300 4 1 rfl
   case c2=>and_intros <;> rfl
   case c3=>omega
   intro v9 Y mw dW gD cV;have sC:aN (D (L w)) (aU Q (aq (jA x) 300)) Y:=cV;have abR:RW gw g n lk Gk Gl Y:=aar;have u9:bf (XW gw g) w Y:=aas;have EB:=aY (cW.snoc (cs:=(jA x).toList) hcl (λO u=>xM O (cI.tr (cI.cz kA _ _) u)) mw dW BS (λO u=>rfl));exact aat
  have cE:¬(j:Int)<M:=aZ;obtain rfl:j=M:=aZ;have hR:=HJ.aX.symm.trans iu.aX;obtain rfl:=hR;have HL:Hid (qQ qV (D (L w)) es u5 wr):=aY λW' u=>(HO.aX.up (bP _) (u.vu (lo:=D (L w)) (row:=U) (λk T _ _ hx=>aZ))).bD
  exact aau
theorem aeY gw g n l y t w(h:RW gw g n l y t w)(_:Z l<=1000000000)(_:0<=n)(_:n<=1000000000) :aK aR 245 #[aj (I ⟨gw,0,U⟩),.func (Fn.func 246) #[] #[]] w λe O =>∃v,e=ak v/\qQ dQ (D (L w)) (jy kp l y t).1 v O/\RW gw g n (jy kp l y t).2.1 (jy kp l y t).2.2.1 (jy kp l y t).2.2.2 O/\bf (XW gw g) w O:=by
 have S:=KD gw g n l y t 17 w h aZ;have hlt:=DF 17 aZ l y t;have lM:=(BK 17 aZ).len l y t;unfold jy;generalize nP 17 l y t=a at *;obtain⟨M,B,A,z⟩:=a;simp only at S hlt lM|-;rw[show ((17:Nat):Int)=17 from rfl]at S;have S:=aY S;have ia:=h.lt;have hgg:=h.2.2;have HQ:=aY (λk=>NL Gr k B A z);clear h;have HR:Hid (ji kp M B A z=ji kp M B A z):=aY rfl;generalize Ij:ji kp M B A z=R at HR|-;have iu:=aY Ij;clear Ij HR;go_in;go_wp2_with fail
 apply bW S.aX;rintro w1⟨T,u1⟩;go_wp2_with fail
 go_loopw [5,8] (fun o i W=>∃j:Nat,j<=M/\i=G E j/\∃es H N C,Hid (ji kp j B A z=(es,H,N,C))/\RW gw g n H N C W/\Hid (cW (D (L w)) (D (L w)) 42 dQ es o W)/\bf (XW gw g) w W) (fun _ i _=>M-(aO i).toNat)
 case atStart=>exact⟨0,aZ,rfl,[],B,A,z,aY rfl,T,aY (cW.nil _ _ _ _ _),u1⟩
 case round =>
  clear T u1;obtain⟨j,hj,rfl,es,H,N,C,HJ,F3,HO,uj⟩:=hrel;have V:=HQ.aX j;rw[HJ.aX]at V;simp only at V;obtain⟨js,rK⟩:=V;have anX:Z es<=17:=aZ;clear rK;have hzj:=uj.size;by_cases yC:j<M
  .have cE:(j:Int)<M:=aZ;have Er:Hid (ji kp (j+1) B A z=(es++[(kp H N C).1],(kp H N C).2)):=aY aap;go_wp2_with fail
   apply bW (aeX gw g n H N C wr F3);rintro Q⟨Jp,u4⟩;generalize hX:kp H N C=X at *;obtain⟨x,lk,Gk,Gl⟩:=X;simp only at Jp;have Hm:Hid (ji kp (j+1) B A z=(es++[x],lk,Gk,Gl)):=aY aaq;have fC:=HO.aX.up (bP _) (u4.vu (lo:=D (L w)) (row:=U) (λk T _ _ hx=>aZ));have lr:=u4.size;obtain⟨bw,hown,hcl,xM⟩:=fC;have kA:=K.new Q (aq (eI x) 42);have hbase:D (L w)<=D (L (aU Q (aq (eI x) 42))):=OD;clear HO HJ Er hX;go_wp2_with (at_builtin;refine nZ rfl _ _ 53 rfl (D (L w)) 42 _ 3 24 TID _ _ _ rfl (xj hown _) (D (L Q)+1) _ 1 1 (eI x).toList rfl ?c1 ?c2 ?c3 hbase ?_)
   case c1=>exact Reads.new Q (eI x).toList 42 3 1 rfl
   case c2=>and_intros <;> rfl
   case c3=>omega
   intro v9 Y mw dW gD cV;have sC:aN (D (L w)) (aU Q (aq (eI x) 42)) Y:=cV;have abR:RW gw g n lk Gk Gl Y:=aar;have u9:bf (XW gw g) w Y:=aas;have EB:=aY (cW.snoc (cs:=(eI x).toList) hcl (λO u=>xM O (cI.tr (cI.cz kA _ _) u)) mw dW BS (λO u=>rfl));exact aat
  have cE:¬(j:Int)<M:=aZ;obtain rfl:j=M:=aZ;have hR:=HJ.aX.symm.trans iu.aX;obtain rfl:=hR;have HL:Hid (qQ dQ (D (L w)) es u5 wr):=aY λW' u=>(HO.aX.up (bP _) (u.vu (lo:=D (L w)) (row:=U) (λk T _ _ hx=>aZ))).bD
  exact aau
theorem Wv gw g n l y t w(h:RW gw g n l y t w)(hl:Z l<=1000000000)(hn0:0<=n)(fR:n<=1000000000) :aK aR 243 #[aj (I ⟨gw,0,U⟩),.func (Fn.func 244) #[] #[]] w λe C =>∃v,e=ak v/\qQ cL (D (L w)) (jy (kV n) l y t).1 v C/\RW gw g n (jy (kV n) l y t).2.1 (jy (kV n) l y t).2.2.1 (jy (kV n) l y t).2.2.2 C/\bf (XW gw g) w C:=by
 have C1:=KD gw g n l y t 17 w h aZ;have hlt:=DF 17 aZ l y t;have lM:=(BK 17 aZ).len l y t;unfold jy;generalize nP 17 l y t=a at *;obtain⟨M,B,A,z⟩:=a;simp only at C1 hlt lM|-;rw[show ((17:Nat):Int)=17 from rfl]at C1;have C1:=aY C1;have ia:=h.lt;have hgg:=h.2.2;have HQ:=aY (λk=>NL (Dv n) k B A z);clear h;have HR:Hid (ji (kV n) M B A z=ji (kV n) M B A z):=aY rfl;generalize Ij:ji (kV n) M B A z=R at HR|-;have iu:=aY Ij;clear Ij HR;go_in;go_wp2_with fail
 apply bW C1.aX;rintro w1⟨S,u1⟩;go_wp2_with fail
 go_loopw [5,8] (fun o i W=>∃j:Nat,j<=M/\i=G E j/\∃es N O H,Hid (ji (kV n) j B A z=(es,N,O,H))/\RW gw g n N O H W/\Hid (cW (D (L w)) (D (L w)) 128 cL es o W)/\bf (XW gw g) w W) (fun _ i _=>M-(aO i).toNat)
 case atStart=>exact⟨0,aZ,rfl,[],B,A,z,aY rfl,S,aY (cW.nil _ _ _ _ _),u1⟩
 case round =>
  clear S u1;obtain⟨j,hj,rfl,es,N,O,H,HJ,F3,HO,uj⟩:=hrel;have hq:=HQ.aX j;rw[HJ.aX]at hq;simp only at hq;obtain⟨js,rK⟩:=hq;have anX:Z es<=17:=aZ;clear rK;have hzj:=uj.size;by_cases yC:j<M
  .have cE:(j:Int)<M:=aZ;have Er:Hid (ji (kV n) (j+1) B A z=(es++[((kV n) N O H).1],((kV n) N O H).2)):=aY aap;go_wp2_with fail
   apply dP (asr gw g n N O H wr F3 aZ hn0 fR);rintro v4 Q⟨G7,Jp,u4⟩;generalize hX:kV n N O H=X at *;obtain⟨x,lk,Gk,Gl⟩:=X;simp only at G7 Jp;obtain⟨vf,ve,rfl,hf,he⟩:=G7 Q (bf.rf _ _);obtain⟨V,T,rfl⟩:=dX hf;obtain⟨Y,ce,rfl⟩:=bH he;have pZ:=aY G7;clear G7 hf he;have Hm:Hid (ji (kV n) (j+1) B A z=(es++[x],lk,Gk,Gl)):=aY aaq;have fC:=HO.aX.up (bP _) (u4.vu (lo:=D (L w)) (row:=U) (λk S _ _ hx=>aZ));have AY:=HO.aX.blk;have lr:=u4.size;obtain⟨bw,hown,hcl,xM⟩:=fC;have kA:=K.new Q (aq (cB x (F V (Z x.f) T) (F Y (Z x.es) ce)) 128);have hbase:D (L w)<=D (L (aU Q (aq (cB x (F V (Z x.f) T) (F Y (Z x.es) ce)) 128))):=OD;clear HO HJ Er hX;go_wp2_with (at_builtin;refine nZ rfl _ _ 59 rfl (D (L w)) 128 _ 8 96 aDd _ _ _ rfl (xj hown _) (D (L Q)+1) _ 1 1 (cB x (F V (Z x.f) T) (F Y (Z x.es) ce)).toList rfl ?c1 ?c2 ?c3 hbase ?_)
   case c1=>exact Reads.new Q (cB x (F V (Z x.f) T) (F Y (Z x.es) ce)).toList 128 8 1 rfl
   case c2=>and_intros <;> rfl
   case c3=>omega
   intro v9 w9 mw dW gD cV;have sC:aN (D (L w)) (aU Q (aq (cB x (F V (Z x.f) T) (F Y (Z x.es) ce)) 128)) w9:=cV;have abR:RW gw g n lk Gk Gl w9:=aar;have u9:bf (XW gw g) w w9:=aas;have EB:=aY (cW.snoc (cs:=(cB x (F V (Z x.f) T) (F Y (Z x.es) ce)).toList) hcl (λC u=>xM C (cI.tr (cI.cz kA _ _) u)) mw dW BS (λC u=>by
    obtain⟨vf,ve,e9,S,h2⟩:=pZ.aX C ⟨u.os,u.tape,u.output,cQ kA.size u.size,λk hk hx=>(u.block k aZ (cZ hk kA.size) bL).trans (kA.block k hk)⟩;simp only[Value.agg.injEq,Array.mk.injEq,List.cons.injEq,and_true,true_and]at e9;obtain⟨rfl,rfl⟩:=e9;exact⟨_,_,rfl,S,h2⟩))
   exact aat
  have cE:¬(j:Int)<M:=aZ;obtain rfl:j=M:=aZ;have hR:=HJ.aX.symm.trans iu.aX;obtain rfl:=hR;have HL:Hid (qQ cL (D (L w)) es u5 wr):=aY λW' u=>(HO.aX.up (bP _) (u.vu (lo:=D (L w)) (row:=U) (λk S _ _ hx=>aZ))).bD
  exact aau
abbrev zML:List aQ:=[G J 0,G E 0,F U 0 0,F U 0 0,F U 0 0,F U 0 0,F U 0 0,F U 0 0]
abbrev LG:Array aQ:=#[G J 0,G E 0,F U 0 0,F U 0 0,F U 0 0,F U 0 0,F U 0 0,F U 0 0]
theorem aAR w:nU Ck (av LG) w:=⟨_,_,_,_,_,_,rfl,iJ _ _,iJ _ _,iJ _ _,iJ _ _,iJ _ _,iJ _ _⟩
structure DM(w0:aP)(r g gw h:Nat)(n:Int)(l:List UInt8)(wr bd:Bool)(cs:Array aQ)(W:aP):Prop where
 rw:RW gw g n l wr bd W
 x:bn W h 239 cs
 rv:bn W r 239 LG
 k:K w0 W
 o:D (L w0)<=r/\r<g/\g<gw/\gw<h
section
variable {w0 W W':aP}{r g gw h:Nat}{n:Int}{l l':List UInt8}{wr bd wr' MS:Bool}{cs:Array aQ}
theorem DM.cF(j:DM w0 r g gw h n l wr bd cs W)(u:bf (XW gw g) W W')(y:RW gw g n l' wr' MS W'):DM w0 r g gw h n l' wr' MS cs W':=by
 have o:=j.o;have k:=j.k;exact⟨y,j.x.cF u amn,j.rv.cF u amn,
  ⟨u.os.trans k.os,u.tape.trans k.tape,u.output.trans k.output,cQ k.size u.size,λi t=>(u.block i (cZ t k.size) aZ).trans (k.block i t)⟩,o⟩
theorem DM.set(j:DM w0 r g gw h n l wr bd cs W) i u:DM w0 r g gw h n l wr bd (cs.setIfInBounds i u) (aV W ⟨h,i,U⟩ u):=by have o:=j.o;exact⟨j.rw.far o.2.2.2 i u,j.x.cH i u,j.rv.far bL u,j.k.setCell bL u,o⟩
theorem DM.st(j:DM w0 r g gw h n l wr bd cs W)(k:K W W'):DM w0 r g gw h n l wr bd cs W':=⟨j.rw.st k,j.x.bM k,j.rv.bM k,j.k.tr k,j.o⟩
theorem bf.mono{X j}(h:bf X W W')(A:∀k,X k->j k):bf j W W':=⟨h.os,h.tape,h.output,h.size,λk y t=>h.block k y (λz=>t (A k z))⟩
theorem qQ.less{α S gb j}{x:List α}{v}(t:qQ S gb x v W)(hg:j<=gb):qQ S j x v W:=λy u=>t y (u.mono (λk z=>aZ))
theorem qQ.mv{α S gb}{x:List α}{v}(j:qQ S gb x v W)(u:bf (λk=>k<gb) W W'):qQ S gb x v W':=λy t=>j y (u.tr t)
theorem qQ.sl{α S gb}{x:List α}{v}(j:qQ S gb x v W):∃A c,v=F A (Z x) c:=bH (j W (bf.rf _ _))
theorem KW{α}(S:fy α) gb W:qQ S gb [] (F U 0 0) W:=λ_ _=>iJ _ _
end
def QY(h:Nat)(m:ig)(z t j A B y:aQ)(W:aP):Prop:=qQ qV (h+1) m.eE z W/\qQ cL (h+1) m.cR t W/\qQ cL (h+1) m.eM j W/\qQ cL (h+1) m.gq A W/\qQ dQ (h+1) m.fc B W/\qQ dQ (h+1) m.fQ y W
structure DL(w0:aP)(r g gw h:Nat)(n:Int)(l:List UInt8)(wr bd:Bool)(m:ig)(v1 v2 v3 v4 v5 v6:aQ)(W:aP):Prop where
 d:DM w0 r g gw h n l wr bd (nh m v1 v2 v3 v4 v5 v6) W
 m:QY h m v1 v2 v3 v4 v5 v6 W
section
variable {w0 W W':aP}{r g gw h:Nat}{n:Int}{l l':List UInt8}{wr bd wr' MS:Bool}{m m':ig}{v1 v2 v3 v4 v5 v6 u1 u2 u3 u4 u5 u6:aQ}
theorem QY.mv(H:QY h m v1 v2 v3 v4 v5 v6 W)(u:bf (λk=>k<h+1) W W'):QY h m v1 v2 v3 v4 v5 v6 W' :=
 ⟨H.1.mv u,H.2.1.mv u,H.2.2.1.mv u,H.2.2.2.1.mv u,H.2.2.2.2.1.mv u,H.2.2.2.2.2.mv u⟩
theorem DL.go(t:DL w0 r g gw h n l wr bd m v1 v2 v3 v4 v5 v6 W)(u:bf (XW gw g) W W')(y:RW gw g n l' wr' MS W'):DL w0 r g gw h n l' wr' MS m v1 v2 v3 v4 v5 v6 W' :=
 ⟨t.d.cF u y,t.m.mv (u.mono λk j=>by have:=t.d.o;rcases j with j|j <;> omega)⟩
theorem DL.put(j:DL w0 r g gw h n l wr bd m v1 v2 v3 v4 v5 v6 W) i v(H:QY h m' u1 u2 u3 u4 u5 u6 W)(e:(nh m v1 v2 v3 v4 v5 v6).setIfInBounds i v=nh m' u1 u2 u3 u4 u5 u6):DL w0 r g gw h n l wr bd m' u1 u2 u3 u4 u5 u6 (aV W ⟨h,i,U⟩ v) :=
 ⟨e▸j.d.set i v,H.mv (bf.dx (X:=λk=>k<h+1) (Nat.lt_succ_self h) i v)⟩
theorem DM.put(aS:DM w0 (D (L w0)) g gw h n l wr bd (nh m v1 v2 v3 v4 v5 v6) W) us(j:Z us=8):bn (ei W (D (L w0)) 0 us) (D (L w0)) 239 us.toArray/\K w0 (ei W (D (L w0)) 0 us)/\bf (λk=>k<h+1) W (ei W (D (L w0)) 0 us) :=
 ⟨DD aS.rv j,K.sets (bP _) _ _ _ aS.k,bf.sets (X:=λk=>k<h+1) YN _ _ _⟩
end
theorem asS b v w(hb:sl b v w)(hn:Z b<=1000000000) :aK aR 170 #[v] w λe w'=>∃v',e=ak (au #[v',G J (zS b)])/\(∀W,bf (λk=>k<D (L w)) w' W->nU (sg b) v' W)/\K w w':=by
 obtain⟨A,c,rfl,t⟩:=hb;have fU:=bn.new w 239 LG;have k0:=fU.cG;have AW:=(t.below k0 (bP _)).more k0.size;obtain⟨n,Ef⟩:∃n:Int,n=(Z b:Int):=⟨_,rfl⟩;have hn0:0<=n:=aZ;have fR:n<=1000000000:=aZ;obtain⟨k,l1,gZ,N,sI⟩:∃k l1 gZ N,nP 3 b az az=(k,l1,gZ,N):=⟨_,_,_,_,rfl⟩;obtain⟨got,H,R,vA⟩:∃got H R,bJ l1 gZ=(got,H,R):=⟨_,_,_,rfl⟩;have hHd:jj b az az=((k,got),H,R,N):=by simp only[jj,oq,Fw,sI,vA]
 have lY:k<3:=by have:=DF 3 (by omega) b az az;rw[sI]at this;exact this
 have gK:Z H<=1000000000:=by have g1:=(BK 3 aZ).len b az az;have g2:=qF l1 gZ;rw[sI]at g1;rw[vA]at g2;simp only at g1 g2;omega
 have hwk:J.wrap (k:Int)=k:=OB;have C1:=λgw g W h=>KD gw g n b az az 3 W h aZ
 have C2:=λg W h=>vN g l1 gZ W h
 simp only[sI,vA]at C1 C2;rw[show ((3:Nat):Int)=3 from rfl]at C1;have Jq:Hid (tj b=if !(oM n b az az).2.2.2&&(!(oM n b az az).2.2.1&&(oM n b az az).2.1.isEmpty)&&fT (oM n b az az).1 then I (oM n b az az).1 else U):=aY (by rw[Ef];rfl);have V:=aY hHd;have C1:=aY C1;have C2:=aY C2;have QS:Hid (zS b=if (tj b).isSome then 0 else 130):=aY rfl;have HMX:Hid (sg b=(tj b).getD Ck):=aY rfl;generalize zS b=CK at *;generalize sg b=MX at *;have hzz:D (L w)<D (L (aU w (aq LG 239))):=bu;clear hHd sI vA t;go_in;go_wp2_with fail
 generalize w.alloc _=w1 at *;refine (Ny A _ c b w1 _ AW (bP _) hn).mono ?_;rintro e w2⟨g,rfl,hg,rH,k2⟩;have dC:=fU.bM k2;have hrg:=cZ hzz hg;replace k0:=k0.tr k2;have jg:=rH.lt;clear AW k2 fU hzz hg;have hw3:RW (D (L w2)) g n b az az (aU w2 (aq #[aj (I ⟨g,0,U⟩),G J (Z b),ar az] 320)):=by rw[<- Ef];exact⟨bn.new _ _ _,rH.al _,jg⟩
 have kA:=K.new w2 (aq #[aj (I ⟨g,0,U⟩),G J (Z b),ar az] 320);go_upto_region 2 with fail;generalize w2.alloc _=w3 at *;have gX:=dC.bM kA;have k3:=k0.tr kA;generalize ia:D (L w2)=gw at *;clear kA dC k0 rH ia;go_wp2_with fail
 refine (C1.aX gw g w3 hw3).mono ?_;rintro e w4⟨rfl,h4,u4⟩;have iq:=gX.cF u4 aZ;have lr:=h4.lt;have aS:DM w (D (L w)) g gw (D (L w4)) n l1 gZ N #[G J k,G E 0,F U 0 0,F U 0 0,F U 0 0,F U 0 0,F U 0 0,F U 0 0] (aU w4 (aq #[G J k,G E 0,F U 0 0,F U 0 0,F U 0 0,F U 0 0,F U 0 0,F U 0 0] 239)):=by have kA:=(K.rf w4).al (aq #[G J k,G E 0,F U 0 0,F U 0 0,F U 0 0,F U 0 0,F U 0 0,F U 0 0] 239);refine⟨h4.st kA,bn.new _ _ _,iq.bM kA,Below.tr ?_ kA,bP _,hrg,jg,lr⟩;exact⟨u4.os.trans k3.os,u4.tape.trans k3.tape,u4.output.trans k3.output,cQ k3.size u4.size,λi hi=>(u4.block i (cZ hi k3.size) aZ).trans (k3.block i hi)⟩
 clear hw3 gX k3 h4 u4 iq C1;go_upto_region 3 with fail;generalize w4.alloc _=w5 at *;generalize D (L w4)=h at *;have q:=aS.rw.1.cell;go_wp2_with fail
 refine (C2.aX g w5 aS.rw.2.1).mono ?_;rintro e w6⟨rfl,yR⟩;replace aS:=aS.cF (bf.went (X:=XW gw g) yR (aI rfl)) (aS.rw.went yR);clear q yR C2;have q:=aS.x.cell;have z:=aS.x.frozen;go_upto_region 4 with fail;replace aS:DL w (D (L w)) g gw h n H R N ⟨k,got,[],[],[],[],[],[]⟩ (F U 0 0) (F U 0 0) (F U 0 0) (F U 0 0) (F U 0 0) (F U 0 0) (aV w6 ⟨h,1,U⟩ (G E got)):=⟨aS.set 1 _,KW _ _ _,KW _ _ _,KW _ _ _,KW _ _ _,KW _ _ _,KW _ _ _⟩;clear q z;generalize w6.setCell _ _=w7 at *;have o:=aS.d.o;clear Ef C1 lr;have q:=aS.d.x.cell;go_upto_block 0 with fail;clear q;go_cut []from 24 to 45 (fun W=>∃(M:ig) (l:List UInt8) (wr bd:Bool) (v1 v2 v3 v4 v5 v6:aQ),DL w (D (L w)) g gw h n l wr bd M v1 v2 v3 v4 v5 v6 W/\Hid (tj b=if !bd&&(!wr&&l.isEmpty)&&fT M then I M else U))
 case first =>
  by_cases iN:k=1
  .subst iN;have y:=Jq.aX;rw[SR V.aX]at y;obtain⟨x1,S,FK,Kr,T⟩:∃x l w c,jy pV H R N=(x,l,w,c):=⟨_,_,_,_,rfl⟩;have mf:=cQ ((sS RD).len H R N) gK;have B:=λW Q=>asy gw g n H R N W Q gK hn0 fR
   simp only[T]at B mf;have B:=aY B;obtain⟨x2,l4,V7,V8,Y⟩:∃x l w c,jy (kV n) S FK Kr=(x,l,w,c):=⟨_,_,_,_,rfl⟩;have oI:=cQ ((sS (Dv n)).len S FK Kr) mf;have C:=λW Q=>Wv gw g n S FK Kr W Q mf hn0 fR
   simp only[Y]at C oI;have C:=aY C;simp only[Cl,oq,T,Y]at y;have HD:=aY y;clear Jq V hwk y T Y;go_wp2_with fail
   refine (B.aX w7 aS.d.rw).mono ?_;rintro e O⟨v,rfl,j,t,u⟩;replace j:=j.less (show h+1<=D (L w7)from aS.d.x.lt);obtain⟨A3,c3,rfl⟩:=j.sl;replace aS:=aS.go u t;clear u t B;have q:=aS.d.x.cell;have z:=aS.d.x.frozen;go_upto_region 7 with fail;replace aS:=aS.put (m':=⟨1,got,x1,[],[],[],[],[]⟩) 2 _ ⟨j,aS.m.2⟩ rfl;clear q z j;generalize O.setCell _ _=QZ at *;go_wp2_with fail
   refine (C.aX QZ aS.d.rw).mono ?_;rintro e O⟨v,rfl,j,t,u⟩;replace j:=j.less (show h+1<=D (L QZ)from aS.d.x.lt);obtain⟨A4,c4,rfl⟩:=j.sl;replace aS:=aS.go u t;clear u t C;have q:=aS.d.x.cell;have z:=aS.d.x.frozen;go_upto_region 13 with fail;replace aS:=aS.put (m':=⟨1,got,x1,x2,[],[],[],[]⟩) 3 _ ⟨aS.m.1,j,aS.m.2.2⟩ rfl;clear q z j;generalize O.setCell _ _=wb4 at *;exact aav
  by_cases hk2:k=2
  .subst hk2;have y:=Jq.aX;rw[SS V.aX]at y;obtain⟨x1,S,FK,Kr,T⟩:∃x l w c,jy (kV n) H R N=(x,l,w,c):=⟨_,_,_,_,rfl⟩;have mf:=cQ ((sS (Dv n)).len H R N) gK;have B:=λW Q=>Wv gw g n H R N W Q gK hn0 fR
   simp only[T]at B mf;have B:=aY B;obtain⟨x2,l4,V7,V8,Y⟩:∃x l w c,jy (kV n) S FK Kr=(x,l,w,c):=⟨_,_,_,_,rfl⟩;have oI:=cQ ((sS (Dv n)).len S FK Kr) mf;have C:=λW Q=>Wv gw g n S FK Kr W Q mf hn0 fR
   simp only[Y]at C oI;have C:=aY C;obtain⟨x3,l5,wr5,bd5,Hy⟩:∃x l w c,jy kp l4 V7 V8=(x,l,w,c):=⟨_,_,_,_,rfl⟩;have rL:=cQ ((sS Gr).len l4 V7 V8) oI;have L5:=λW Q=>aeY gw g n l4 V7 V8 W Q oI hn0 fR
   simp only[Hy]at L5 rL;have L5:=aY L5;obtain⟨x4,l6,wr6,bd6,hB6⟩:∃x l w c,jy kp l5 wr5 bd5=(x,l,w,c):=⟨_,_,_,_,rfl⟩;have UT:=cQ ((sS Gr).len l5 wr5 bd5) rL;have L6:=λW Q=>aeY gw g n l5 wr5 bd5 W Q rL hn0 fR
   simp only[hB6]at L6 UT;have L6:=aY L6;simp only[rD,oq,T,Y,Hy,hB6]at y;have HD:=aY y;clear Jq V hwk y T Y Hy hB6;go_wp2_with fail
   refine (B.aX w7 aS.d.rw).mono ?_;rintro e O⟨v,rfl,j,t,u⟩;replace j:=j.less (show h+1<=D (L w7)from aS.d.x.lt);obtain⟨A3,c3,rfl⟩:=j.sl;replace aS:=aS.go u t;clear u t B;have q:=aS.d.x.cell;have z:=aS.d.x.frozen;go_upto_region 10 with fail;replace aS:=aS.put (m':=⟨2,got,[],[],x1,[],[],[]⟩) 4 _ ⟨aS.m.1,aS.m.2.1,j,aS.m.2.2.2⟩ rfl;clear q z j;generalize O.setCell _ _=QZ at *;go_wp2_with fail
   refine (C.aX QZ aS.d.rw).mono ?_;rintro e O⟨v,rfl,j,t,u⟩;replace j:=j.less (show h+1<=D (L QZ)from aS.d.x.lt);obtain⟨A4,c4,rfl⟩:=j.sl;replace aS:=aS.go u t;clear u t C;have q:=aS.d.x.cell;have z:=aS.d.x.frozen;go_upto_region 11 with fail;replace aS:=aS.put (m':=⟨2,got,[],[],x1,x2,[],[]⟩) 5 _ ⟨aS.m.1,aS.m.2.1,aS.m.2.2.1,j,aS.m.2.2.2.2⟩ rfl;clear q z j;generalize O.setCell _ _=wb4 at *;go_wp2_with fail
   refine (L5.aX wb4 aS.d.rw).mono ?_;rintro e O⟨v,rfl,j,t,u⟩;replace j:=j.less (show h+1<=D (L wb4)from aS.d.x.lt);obtain⟨A5,c5,rfl⟩:=j.sl;replace aS:=aS.go u t;clear u t L5;have q:=aS.d.x.cell;have z:=aS.d.x.frozen;go_upto_region 12 with fail;replace aS:=aS.put (m':=⟨2,got,[],[],x1,x2,x3,[]⟩) 6 _ ⟨aS.m.1,aS.m.2.1,aS.m.2.2.1,aS.m.2.2.2.1,j,aS.m.2.2.2.2.2⟩ rfl;clear q z j;generalize O.setCell _ _=wb5 at *;go_wp2_with fail
   refine (L6.aX wb5 aS.d.rw).mono ?_;rintro e O⟨v,rfl,j,t,u⟩;replace j:=j.less (show h+1<=D (L wb5)from aS.d.x.lt);obtain⟨A6,c6,rfl⟩:=j.sl;replace aS:=aS.go u t;clear u t L6;have q:=aS.d.x.cell;have z:=aS.d.x.frozen;go_upto_region 13 with fail;replace aS:=aS.put (m':=⟨2,got,[],[],x1,x2,x3,x4⟩) 7 _ ⟨aS.m.1,aS.m.2.1,aS.m.2.2.1,aS.m.2.2.2.1,aS.m.2.2.2.2.1,j⟩ rfl;clear q z j;generalize O.setCell _ _=wb6 at *;exact aav
  have y:=Jq.aX;rw[anw V.aX iN hk2]at y;have HD:=aY y;have hkk:¬(k:Int)=1:=aZ;have aKF:¬(k:Int)=2:=aZ;clear Jq V iN hk2 hwk y;exact aav
 case rest =>
 clear aS Jq V;obtain⟨M,l,wr,bd,v1,v2,v3,v4,v5,v6,aS,HD⟩:=hcut;obtain⟨A1,c1,rfl⟩:=aS.m.1.sl;obtain⟨A2,c2,rfl⟩:=aS.m.2.1.sl;obtain⟨A3,c3,rfl⟩:=aS.m.2.2.1.sl;obtain⟨A4,c4,rfl⟩:=aS.m.2.2.2.1.sl;obtain⟨A5,c5,rfl⟩:=aS.m.2.2.2.2.1.sl;obtain⟨A6,c6,rfl⟩:=aS.m.2.2.2.2.2.sl;have MP:Hid (∀W,bf (λk=>k<h+1) wc W->nU M (av (nh M (F A1 (Z M.eE) c1) (F A2 (Z M.cR) c2) (F A3 (Z M.eM) c3) (F A4 (Z M.gq) c4) (F A5 (Z M.fc) c5) (F A6 (Z M.fQ) c6))) W):=aY λW u=>⟨_,_,_,_,_,_,rfl,aS.m.1 W u,aS.m.2.1 W u,aS.m.2.2.1 W u,aS.m.2.2.2.1 W u,aS.m.2.2.2.2.1 W u,aS.m.2.2.2.2.2 W u⟩
 replace aS:=aS.d;obtain⟨dn,uA⟩:∃dn,dn=(!wr&&l.isEmpty):=⟨_,rfl⟩;obtain⟨ok,hok⟩:∃ok,ok=fT M:=⟨_,rfl⟩;rw[<- uA,<- hok]at HD;have HDN:=aY uA;have nT:=aY hok;clear uA hok;have qw:=aS.rw.1.cell;cases bd;rotate_left;exact aaw;go_wp2_with fail
 refine (Nn g _ _ _ aS.rw.2.1).mono ?_;rintro e w8⟨rfl,rfl⟩;rw[<- HDN.aX];cases dn;exact aaw;have qm:=aS.x.cell;go_wp2_with fail
 refine (ae6 M (av (nh M (F A1 (Z M.eE) c1) (F A2 (Z M.cR) c2) (F A3 (Z M.eM) c3) (F A4 (Z M.gq) c4) (F A5 (Z M.fc) c5) (F A6 (Z M.fQ) c6))) wc (MP.aX _ (bf.rf _ _))).mono ?_;rintro e w9⟨rfl,k9⟩;replace aS:=aS.st k9;clear qw qm;cases ok;have Ee:ku M=130:=by unfold ku;rw[<- nT.aX];rfl
 rw[Ee];clear Ee;exact aaw;have Ee:ku M=0:=by unfold ku;rw[<- nT.aX];rfl
 rw[Ee];clear Ee;have q:=aS.rv.cell;have q2:=aS.x.cell;have z:=aS.rv.frozen;have anY:Hid (tj b=I M):=aY (by rw[HD.aX];simp);obtain rfl:CK=0:=by rw[QS.aX,anY.aX];rfl
 obtain rfl:MX=M:=by rw[HMX.aX,anY.aX];rfl
 go_wp2;have P9:=aS.put [G J MX.bA,G E MX.got,F A1 (Z MX.eE) c1,F A2 (Z MX.cR) c2,F A3 (Z MX.eM) c3,F A4 (Z MX.gq) c4,F A5 (Z MX.fc) c5,F A6 (Z MX.fQ) c6] rfl;simp only[ei,Nat.reduceAdd,mr]at P9;clear q q2 z;generalize ax _ _ _=W9 at *;have e9:=P9.1.cell;have o:=aS.o;refine aM (v:=au #[av (nh MX (F A1 (Z MX.eE) c1) (F A2 (Z MX.cR) c2) (F A3 (Z MX.eM) c3) (F A4 (Z MX.gq) c4) (F A5 (Z MX.fc) c5) (F A6 (Z MX.fQ) c6)),G J 0]) amo rfl ?_;exact⟨_,rfl,λW u=>MP.aX W (((bf.cz k9 _).tr P9.2.2).tr (u.mono λk hk=>cZ hk aZ)),P9.2.1⟩
def OP(B:cJ)(j:Int):Bool:=decide (j∈si B)
def OQ(B:cJ)(j:Int):Bool:=!ot B&&decide (j=yH B)
def OE(B:cJ)(t:Int)(j par:Bool)(m:ig):cJ×Int:=if j&&decide (m.bA=1)then (iL { B with dm:=oT B.dm t m },0)else if par&&decide (m.bA=2)then (sY B m,0)else (B,201)
theorem aw0 B j b:jc B j b=if OP B j||OQ B j then (if zS b=0 then OE B j (OP B j) (OQ B j) (sg b)else (B,zS b))else (B,201):=by grind [jc,OP,OQ,zS,OE,sg,tj]
theorem aAS{B}{m:Nat}(j:B.me=(m:Int))(t:m<Z B.par):yH B=B.par[m]:=by grind [yH]
theorem atp{M p B w}(h:df M p B w)(C:dq B)(hF:mV B)(gT:Z B.cA+16<=1000000) j b vb(hb:sl b vb w)(dR:Z b<=1000000000) :aK aR 106 #[aj (I ⟨p.g,0,U⟩),G J j,vb] w λe w'=>e=ak (G J (jc B j b).2)/\fG M p (jc B j b).1 w w':=by
 have HE:=aY (aw0 B j b);have hlo:=h.low;have aFm:=λk y=>h.low k (h.sub k y)
 have X:=aY λW (k:K w W)=>h.st k
 have CK:=aY (WX h C);have CR:=aY λW (k:K w W)=>Rw (h.st k)
 have CD:=aY λW (k:K w W)=>asS b vb W (qK _ _ _ _ hb k) dR
 have:Z (si B)<=16:=cQ (KO _ _) (rr C.tr).2;have q:=h.q;have AV:=C.me;have:=(rr C.tr).2;simp only[iW,fI,decide_eq_true_eq]at AV;obtain⟨mn,AU⟩:=Int.eq_ofNat_of_zero_le AV.1;have QU:mn<Z B.par:=aZ;have V6:=aY (aAS AU QU);have Pw:=h.dz.now.par;have T:Hid (OQ B j=(!ot B&&decide (j=yH B))):=aY rfl;have HIK:Hid (OP B j=decide (j∈si B)):=aY rfl;have HG:=aY C;have HF:=aY hF;obtain⟨A0,c0,rfl,-⟩:=hb;obtain⟨g,hg⟩:∃g,Hid (g=p.g):=⟨_,aY rfl⟩;rw[<- hg.aX]at CK CR q|-;obtain⟨pv,hpv⟩:∃pv,Hid (pv=p.vp):=⟨_,aY rfl⟩;simp only[JU]at q;rw[<- hpv.aX,AU]at q;rw[<- hpv.aX]at Pw;obtain⟨Ap,cp,rfl,Uz,-⟩:=Pw;obtain⟨bp,op,rfl,hcell⟩:=ints_at Uz aZ;have qp:=λW (k:K w W)=>hcell W k mn QU
 have xV:(mn:Int)<Z B.par:=aZ;have yU:=aY hlo;have HLX:=aY aFm;have kk:=K.rf w;generalize OP B j=t at *;generalize OQ B j=par at *;generalize si B=ks at *;go_in;go_wp2_with fail
 refine CK.aX.mono ?_;rintro e w1⟨v1,rfl,gG,k1⟩;have C2:=aY (aeK ks j v1 w1 gG.bD aZ);obtain⟨A1,c1,rfl⟩:=gG.slice;go_wp2_with fail
 refine C2.aX.mono ?_;rintro e Y⟨rfl,k2⟩;have R:=k1.tr k2;rw[<- HIK.aX];go_upto_region 4 with fail;have q2:=λW (k:K Y W)=>q W (R.tr k)
 have Wb:=λW (k:K Y W)=>qp W (R.tr k)
 have hb2:=V6.aX.symm;rw[hb2]at Wb;generalize yH B=pb at *;go_cut [8]from 17 to 33 (fun v W=>v=ar par/\K Y W)
 case first =>
  have C3:=aY λW (k:K Y W)=>CR.aX W (R.tr k)
  cases hr:ot B
  .rw[hr]at C3 T;have HP:Hid (par=decide (j=pb)):=aY (by rw[T.aX];rfl);have mH:(j==pb)=decide (j=pb):=dH;have qs:=aB q2 (aB Wb xV);refine fD 17 ?_;refine bB.i ?_;refine bB.is (ar az) (λV W kW hp=>?_) ?_
   ·(try simp only[dN,bZ,cC,dK,dL,bS]at hp)
    exact amp
   iterate 15 refine bB.i ?_
   intro V W kW hA;simp only[bZ,cC,dF,bS,Nat.reduceAdd]at hA;obtain⟨f0,f1,f2,f3,f4,f5,f6,f7,f8,f9,f10,f11,f12,f13,f14,f15,f16,-⟩:=hA;refine bN.pure (ar par) rfl (by simp[bR,aC,f16,HP.aX,mH,aL,bT,go_sem]) ?_;exact amq
  rw[hr]at C3 T;have HP:Hid (par=az):=aY (by rw[T.aX];rfl);have qs:=aB q2 (aB Wb xV);refine fD 17 ?_;refine bB.i ?_;refine bB.is (ar aA) (λV W kW hp=>?_) ?_
  ·(try simp only[dN,bZ,cC,dK,dL,bS]at hp)
   exact amp
  iterate 15 refine bB.i ?_
  intro V W kW hA;simp only[bZ,cC,dF,bS,Nat.reduceAdd]at hA;obtain⟨f0,f1,f2,f3,f4,f5,f6,f7,f8,f9,f10,f11,f12,f13,f14,f15,f16,-⟩:=hA;refine bN.pure (ar par) rfl (by simp[bR,aC,f16,HP.aX,aL,bT,go_sem]) ?_;exact amq
 case rest =>
  obtain⟨rfl,k3⟩:=hcut;have S:=R.tr k3;go_upto_region 5 with fail;go_cut [39]from 34 to 38 (fun v W=>v=ar (!(t||par))/\wc=W)
  case first =>
   cases t <;> cases par
   all_goals
    go_wp2_with fail
    go_meet
    case rel=>exact⟨rfl,rfl⟩
  case rest =>
   obtain⟨rfl,rfl⟩:=hcut;cases PG:t||par
   have HR:Hid (jc B j b=(B,201)):=aY amr;have HN:=aY ((X.aX w kk).n S);exact ams;have HR:Hid (jc B j b=if zS b=0 then OE B j t par (sg b)else (B,zS b)):=aY amr;have CD4:=aY (CD.aX wc S);go_wp2_with fail
   refine CD4.aX.mono ?_;rintro e w4⟨vm,rfl,hm,k4⟩;have xO:=S.tr k4;obtain⟨m1,m2,m3,m4,m5,m6,rfl,pg,hm2,AQ,Ej,LR,FM⟩:=hm w4 (bf.rf _ _);obtain⟨A1',c1',rfl⟩:=bH pg;obtain⟨QA,QB,rfl⟩:=bH hm2;obtain⟨A3',c3',rfl⟩:=bH AQ;obtain⟨A4',c4',rfl⟩:=bH Ej;obtain⟨A5',c5',rfl⟩:=bH LR;obtain⟨A6',c6',rfl⟩:=bH FM;have hsz:=S.size;have HM:=aY (show Fx M (λW=>nU (sg b) (av (nh (sg b) (F A1' (Z (sg b).eE) c1') (F QA (Z (sg b).cR) QB) (F A3' (Z (sg b).eM) c3') (F A4' (Z (sg b).gq) c4') (F A5' (Z (sg b).fc) c5') (F A6' (Z (sg b).fQ) c6'))) W) w4 from λW u=>hm W (u.more λk y=>cZ (yU.aX k y) hsz));have nT:Hid (zS b=0->fT (sg b)=aA/\pU (sg b)):=aY λh=>by
    cases A:tj b with
    | none=>rw[(show zS b=130 by simp[zS,A])]at h;cases h
    | some m => rw[show sg b=m by simp[sg,A]];exact⟨(ND A).2,NM A⟩
   generalize sg b=m at *;generalize zS b=ec at *;have O:=bn.new w4 239 (nh m (F A1' (Z m.eE) c1') (F QA (Z m.cR) QB) (F A3' (Z m.eM) c3') (F A4' (Z m.gq) c4') (F A5' (Z m.fc) c5') (F A6' (Z m.fQ) c6'));have k5:=O.cG;go_upto_region 8 with fail;generalize ay w4 _=z at *;generalize Gc:D (L w4)=gx at O|-;have N:=xO.tr k5;have HM5:=aY (HM.aX.k k5);by_cases Qd:ec=0;rotate_left
   .have kN:Hid (jc B j b=(B,ec)):=aY (by rw[HR.aX,bQ Qd]);have:(ec != 0)=true:=by simpa using Qd
    have HN:=aY ((X.aX w kk).n N);go_wp2;go_ret;exact⟨by rw[kN.aX];rfl,by rw[kN.aX];exact HN.aX⟩
   subst Qd;obtain⟨hok,hfit⟩:=nT.aX rfl;have kN:Hid (jc B j b=OE B j t par m):=aY (by rw[HR.aX,bV rfl]);have HMM:Hid (OE B j t par m=if t&&decide (m.bA=1)then (iL { B with dm:=oT B.dm j m },0)else if par&&decide (m.bA=2)then (sY B m,0)else (B,201)):=aY rfl;have abS:=aY hok;have Co:=aY hfit;have:=O.cell;go_upto_region 11 with fail;go_cut [48]from 49 to 54 (fun v W=>v=ar (t&&decide (m.bA=1))/\z=W)
   case first =>
    cases t
    .go_wp2_with fail
     go_meet
     case rel=>exact⟨rfl,rfl⟩
    have A:Hid ((m.bA==1)=decide (m.bA=1)):=aY aac;go_wp2_with fail
    go_meet
    case rel=>exact⟨dH,rfl⟩
   case rest =>
    obtain⟨rfl,rfl⟩:=hcut;have MN:=aY λW (k:K z W)=>X.aX W (N.tr k)
    cases hc1:t&&decide (m.bA=1)
    .have HQ:Hid (jc B j b=if par&&decide (m.bA=2)then (sY B m,0)else (B,201)):=aY amt;go_upto_region 14 with fail;go_cut [63]from 64 to 69 (fun v W=>v=ar (par&&decide (m.bA=2))/\z=W)
     case first =>
      cases par
      .go_wp2_with fail
       go_meet
       case rel=>exact⟨rfl,rfl⟩
      have A:Hid ((m.bA==2)=decide (m.bA=2)):=aY aac;go_wp2_with fail
      go_meet
      case rel=>exact⟨dH,rfl⟩
     case rest =>
      obtain⟨rfl,rfl⟩:=hcut;cases jR:par&&decide (m.bA=2);have HQ2:Hid (jc B j b=(B,201)):=aY amu;have HN:=aY ((X.aX w kk).n N);exact amv;have HQ2:Hid (jc B j b=(sY B m,0)):=aY amu;have hA:=(Te abS.aX Co.aX).2.2.2.2.2.1;have H:∀W,bf M z W->bD qV m.eE (F A1' (Z m.eE) c1') W/\bD cL m.cR (F QA (Z m.cR) QB) W/\bD cL m.eM (F A3' (Z m.eM) c3') W/\bD cL m.gq (F A4' (Z m.gq) c4') W/\bD dQ m.fc (F A5' (Z m.fc) c5') W/\bD dQ m.fQ (F A6' (Z m.fQ) c6') W:=λW u=>by obtain⟨_,_,_,_,_,_,e,h⟩:=HM5.aX W u;cases e;exact h
      have L0:=H z (bf.rf _ _);have Q:=avf (MN.aX z (K.rf _)) HG.aX m _ _ _ _ _ _ L0.1 L0.2.1 (λW u=>(H W u).2.2.1) (λW u=>(H W u).2.2.2.1) (λW u=>(H W u).2.2.2.2.1) (λW u=>(H W u).2.2.2.2.2) abS.aX Co.aX aZ;rw[<- hg.aX]at Q;have Q:=aY Q;go_wp2_with fail
      refine Q.aX.mono ?_;rintro e w6⟨rfl,hN⟩;have HN:=aY (hN.F6 N HLX.aX);exact amv
    have HQ:Hid (jc B j b=(iL { B with dm:=oT B.dm j m },0)):=aY amt;have kM:=hg.aX;subst kM;have q5:=λW (k:K z W)=>(MN.aX W k).q W (K.rf _)
    simp only[JU]at q5;have qx5:=O.cells;go_wp2_with fail
    have qs:=aB q5 qx5;refine fD 6 ?_;iterate 6 refine bB.i ?_
    intro V W kW hA;simp only[bZ,cC,dF,bS,Nat.reduceAdd]at hA;obtain⟨f0,f1,f2,f3,f4,f5,-⟩:=hA;obtain⟨w7,nz,Vg,hu7⟩:=awZ (MN.aX W kW) j HF.aX.nk (HM5.aX.k kW);refine bN.skip w7 rfl (by simp[bR,aC,f3,f4,f5,aL,bT,nz,go_sem]) ?_;refine bN.e ?_;have V2:=N.tr kW;have CW:=afI Vg (NG (k:=j) HG.aX abS.aX Co.aX);have U7:=aY ((bf.cz V2 (cY p)).tr (hu7.more λk e=>aJ (aI e)));have CW:=aY CW;go_wp2_with fail
    refine CW.aX.mono ?_;rintro e w8⟨rfl,hN⟩;have HN:=aY (fG.tr (p:=p) (M:=M) U7.aX rfl (λk y=>aI y) (λk y=>y) hN);go_wp2;go_ret;exact⟨ru,by rw[HQ.aX];exact HN.aX⟩
theorem aw1 c x r s n:pN c (x :: r) s n=if rX s c x=[]then pN c r (nt s x) (n+1)else (rX s c x,n+1):=rfl
theorem avt{M p B w}(h:df M p B w)(z:dq B) c j :aK aR 69 #[aj (I ⟨p.g,0,U⟩),G J c,G J j] w λe w'=>∃v',e=ak (au #[v',G J (sq B c j).2.1,G J (sq B c j).2.2])/\cW (D (L w)) (D (L w)) 35 eB (sq B c j).1 v' w'/\K w w':=by
 have ja:=z.GL;have:=z.dk.len;have q:=h.q;have tA:=h.dz.now.bq;have HP:Hid (sq B c j=if Fg B c then (if 0<=j/\j<=(Z B.st.bq:Int)then ((pN c (B.st.bq.drop j.toNat) (nK (B.st.bq.take j.toNat)) j.toNat).1,((pN c (B.st.bq.drop j.toNat) (nK (B.st.bq.take j.toNat)) j.toNat).2:Int),0)else ([],0,1))else ([],0,200)):=aY rfl;have O:=aY (afx h z c);have C2:=aY λW (k:K w W) n Q=>afE (h.st k) z n Q
 obtain⟨g,gl,gd,gr,gt,vd,vr,vp,vh,vl,vq,va,vt,vf,vw,kr⟩:=p;simp only at q tA O C2;obtain⟨Al,cl,rfl,hl,hcl⟩:=tA;have tI:=aY ja.1;generalize sq B c j=R at *;generalize Vm:Fg B c=HB at *;go_in;go_wp2_with fail
 apply bW O.aX;intro w1 k1;cases HB;have HF:Hid (R=([],0,200)):=aY Z5;exact aax;by_cases V:0<=j/\j<=(Z B.st.bq:Int);rotate_left;have HF:Hid (R=([],0,1)):=aY (by rw[HP.aX,bV rfl,bQ V]);have S:j<0\/(¬j<0/\(Z B.st.bq:Int)<j):=aZ;rcases S with S|⟨S,jR⟩;exact aax;exact aax;obtain⟨n,rfl⟩:=Int.eq_ofNat_of_zero_le V.1;have Q:n<=Z B.st.bq:=aZ;have HF:Hid (R=((pN c (B.st.bq.drop n) (nK (B.st.bq.take n)) n).1,((pN c (B.st.bq.drop n) (nK (B.st.bq.take n)) n).2:Int),0)):=aY (by rw[HP.aX,bV rfl,bV V];rfl);have:=XC (B.st.bq.take n);have MG:=alk (l:=B.st.bq.take n) λx y=>tI.aX x (oW y)
 have:Z (B.st.bq.take n)=n:=cN;have A:=aY (C2.aX w1 k1 n Q);go_upto_region 8 with fail;go_wp2_with fail
 apply dP A.aX;rintro v2 w2⟨fq,k2⟩;have aFn:bK (λk=>k<D (L w)) (D (L w)) 260 jZ (nK (B.st.bq.take n)) v2 w2:=(fq.less λk hk=>by have:=k1.size;omega).low k1.size;generalize nK (B.st.bq.take n)=s0 at *;have dt:=k1.tr k2;go_wp2_with fail
 have hG0:=HF;go_loopw [10,11,12,13] (fun o i _ _ W=>∃(m:Nat) (s:List nQ),m<=Z B.st.bq/\i=G J m/\Z s<=m/\Fq s/\bK (fun k=>k<D (L w)) (D (L w)) 260 jZ s o W/\K w W/\Hid (R=((pN c (B.st.bq.drop m) s m).1,((pN c (B.st.bq.drop m) s m).2:Int),0))) (fun _ i _ _ _=>Z B.st.bq-(aO i).toNat)
 case atStart=>exact⟨n,s0,Q,rfl,aZ,MG,aFn,dt,hG0⟩
 case round =>
  obtain⟨m,s,hm,rfl,mF,C,hO,kr,HG⟩:=hrel;by_cases T:m<Z B.st.bq
  .have cE:(m:Int)<Z B.st.bq:=aZ;obtain⟨b1,off,cs,rfl,mR,hrl,d0,d⟩:=fE hl m T bG;have Y:=tI.aX _ (dJ T);have HG2:Hid (R=((if rX s c B.st.bq[m]=[]then pN c (B.st.bq.drop (m+1)) (nt s B.st.bq[m]) (m+1)else (rX s c B.st.bq[m],m+1)).1,((if rX s c B.st.bq[m]=[]then pN c (B.st.bq.drop (m+1)) (nt s B.st.bq[m]) (m+1)else (rX s c B.st.bq[m],m+1)).2:Int),0)):=aY (by
    rw[HG.aX,List.drop_eq_getElem_cons T,aw1])
   generalize B.st.bq[m]=x at *;obtain⟨vf,H,rfl,hf,he⟩:=hrl w (K.rf w);have HE:Hid (∀W,K w W->fM x (av (cB x vf H)) W):=aY λW k=>⟨_,_,rfl,fO _ _ _ _ hf k,cM he k⟩
   have:∀i,i<8->wr.cell? ⟨b1,off+m*8+i,U⟩=(cB x vf H)[i]?:=λi hi=>(d wr kr i hi).trans aD
   have:wr.cell? ⟨b1,off+m*8,U⟩=I (G J x.bA):=d0 wr kr;have y:=bn.new wr 128 (cB x vf H);have k1':K wr (aU wr (aq (cB x vf H) 128)):=(K.rf wr).al _;obtain⟨Af,cf,rfl⟩:=dX hf;obtain⟨Ae,ce,rfl⟩:=bH he;go_upto_region 13 with fail;generalize wr.alloc _=w1' at *;have gG:=hO.st k1';have X:=kr.tr k1';have:=y.cell;have O:=aY (au3 s c x _ _ w1' gG.bD (HE.aX w1' X) aZ C Y);obtain⟨Ao,co,rfl⟩:=gG.slice;go_wp2_with fail
   apply tY O.aX X;intro v4 w4 fC k4 t;have hz1:=X.size;have JR:=aY (cW.low (cW.floor fC hz1) hz1);have gL:=gG.st k4;have:=(y.bM k4).cell;obtain⟨A4,c4,rfl⟩:=bH fC.wF.bD;by_cases N:rX s c x=[];rotate_left
   .have hpos:=List.length_pos_iff.2 N;have HF:Hid (R=(rX s c x,((m+1:Nat):Int),0)):=aY (by rw[HG2.aX,bQ N]);have:J.wrap ((m:Int)+1)=(m:Int)+1:=IntWalk.i64_in _ aZ;generalize rX s c x=bt at *;go_wp2;go_ret3;exact⟨_,I0,by rw[HF.aX];exact JR.aX,t⟩
   have HF:Hid (R=((pN c (B.st.bq.drop (m+1)) (nt s x) (m+1)).1,((pN c (B.st.bq.drop (m+1)) (nt s x) (m+1)).2:Int),0)):=aY (by rw[HG2.aX,bV N]);rw[N];by_cases hk:x.bA=1
   .have HF2:Hid (R=((pN c (B.st.bq.drop (m+1)) s (m+1)).1,((pN c (B.st.bq.drop (m+1)) s (m+1)).2:Int),0)):=aY (by rw[HF.aX,show nt s x=s from bV hk]);have hk2:(x.bA != 1)=false:=IZ;go_wp2;go_roundw
    case rel=>exact⟨m+1,s,aZ,dh,aZ,C,gL,t,HF2⟩
    case measure=>simp[aO];omega
   have hk2:(x.bA != 1)=true:=vP;have hs1:nt s x=xg s x:=bQ hk;have:=ag1 s x;have wq:=alj (x:=x) C Y.1;have A:=aY (afC s x _ _ w4 gL.bD (HE.aX w4 t) aZ C Y.1);rw[<- hs1]at A;go_wp2_with fail
   apply tY A.aX t;intro v5 w5 nW k5 oJ;have lr:=t.size;have ke:bK (λk=>k<D (L w)) (D (L w)) 260 jZ (nt s x) v5 w5:=(nW.less λk hk=>aZ).low lr;go_wp2;go_roundw
   case rel=>exact⟨m+1,nt s x,aZ,dh,aZ,wq,ke,oJ,HF⟩
   case measure=>simp[aO];omega
  have cE:¬(m:Int)<Z B.st.bq:=aZ;obtain rfl:m=Z B.st.bq:=aZ;have HF:Hid (R=([],(Z B.st.bq:Int),0)):=aY (by rw[HG.aX,List.drop_length];rfl);go_wp2;go_ret3;exact⟨_,I0,ZO,kr⟩
def fB(X j:Nat->Prop)(g gd:Nat)(B:cJ)(W:aP):Prop:=ic B/\∃p,df (λk=>X k\/cY p k) p B W/\p.key=(g,gd)/\∀k,j k->¬cY p k/\k<D (L W)
section
variable {X X' aa Z':Nat->Prop}{g gd:Nat}{B B':cJ}{W W':aP}
theorem fB.more(h:fB X aa g gd B W)(k:K W W')(A:∀k,X' k->X k\/(D (L W)<=k/\k<D (L W')))(H:∀k,Z' k->aa k\/(D (L W)<=k/\k<D (L W'))):fB X' Z' g gd B W':=by obtain⟨M,p,t,C,hz⟩:=h;refine⟨M,p,t.far (X:=λ_=>False) (bf.cz k _) (λ_ h=>h.elim) (λ_ h=>h.elim) (λj y z=>z.elim (λh=>aI ((A j h).resolve_right aZ)) aJ) (λ_ h=>aJ h) (λj y=>?_),C,λj y=>?_⟩;rcases y with h|h;rcases A j h with h|h;exact cZ (t.low j (aI h)) k.size;exact h.2;exact cZ (t.low j (aJ h)) k.size;rcases H j y with h|h;exact⟨(hz j h).1,cZ (hz j h).2 k.size⟩;exact⟨λz=>by have:=t.low j (t.sub j z);omega,h.2⟩
theorem fB.st(h:fB X aa g gd B W)(k:K W W'):fB X aa g gd B W':=h.more k (λ_ h=>aI h) λ_ h=>aI h
theorem fB.less(h:fB X aa g gd B W)(t:∀k,X' k->X k)(y:∀k,Z' k->aa k):fB X' Z' g gd B W:=h.more (K.rf W) (λk j=>aI (t k j)) λk j=>aI (y k j)
theorem fB.n{p}(y:∀k,aa k->¬cY p k/\k<D (L W))(hg:p.key=(g,gd))(C:ic B')(h:fG (λk=>X k\/cY p k) p B' W W'):fB X aa g gd B' W'/\bf (λk=>¬aa k) W W':=by obtain⟨z,A,t,B,H⟩:=h;refine⟨⟨C,z,A.less (λ_ h=>aJ h) (λ_ h=>h.elim (λh=>aI (aI h)) aJ),B.trans hg,λk j=>⟨λM=>?_,cZ (y k j).2 t.size⟩⟩,t.more λk j hz=>(y k hz).1 j⟩;grind
theorem fB.call{f args r}(h:fB X aa g gd B W)(t:∀p,df (λk=>X k\/cY p k) p B W->p.key=(g,gd)->aK aR f args W λe w'=>e=ak r/\fG (λk=>X k\/cY p k) p B' W w')(y:ic B') :aK aR f args W λe w'=>e=ak r/\fB X aa g gd B' w'/\bf (λk=>¬aa k) W w':=by obtain⟨-,p,z,j,hz⟩:=h;exact (t p z j).mono λe w' h=>⟨h.1,fB.n hz j y h.2⟩
theorem aDe(h:fB X aa g gd B W) c(t:dA c)(hn:B.calls+1<4611686018427387904) :
 aK aR 101 #[aj (I ⟨g,0,U⟩),G J c] W λe j=>e=ak (au #[dD (zM B c).2.1,G J (zM B c).2.2])/\fB X aa g gd (zM B c).1 j/\bf (λk=>¬aa k) W j :=
 h.call (λp y e=>kg e▸atQ y h.1.todq c t) (h.1.begin hn t)
theorem aFo(h:fB X aa g gd B W) c(z:dA c)(hn:B.calls+1<4611686018427387904)(n:Nat)(j:n<18446744073709551616) f vf(A:fZ f vf W)(hfit:∀t∈f,jN t)(C:Z f<=1000000) :
 aK aR 54 #[aj (I ⟨g,0,U⟩),G J c,G E n,vf] W λe y=>e=ak (au #[dD (Cm B c n f).2.1,G J (Cm B c n f).2.2])/\fB X aa g gd (Cm B c n f).1 y/\bf (λk=>¬aa k) W y :=
 h.call (λp H e=>kg e▸awi H h.1.todq c z n j f vf A hfit C) (h.1.ask hn tQ z j hfit)
theorem aDf(h:fB X aa g gd B W) c(t:dA c)(hn:B.calls+1<4611686018427387904)(n:Nat)(y:n<18446744073709551616) :
 aK aR 102 #[aj (I ⟨g,0,U⟩),G J c,G E n] W λe j=>e=ak (au #[dD (B7 B c n).2.1,G J (B7 B c n).2.2])/\fB X aa g gd (B7 B c n).1 j/\bf (λk=>¬aa k) W j :=
 h.call (λp z e=>kg e▸atS z h.1.todq c t n y) (h.1.ask hn tQ t y bu)
theorem aAT(h:fB X aa g gd B W) a(A:ew a) j u(C:iI j u W)(z:Z j<=1000000)(t:∀x∈j,nv x) :
 aK aR 114 #[aj (I ⟨g,0,U⟩),dD a,u] W λe y=>e=ak (G J (gg B (ij B.bI a j)).2)/\fB X aa g gd (gg B (ij B.bI a j)).1 y/\bf (λk=>¬aa k) W y :=
 h.call (λp H e=>kg e▸asJ H h.1.todq a j u C z t) (h.1.Fb t A)
theorem aB8(h:fB X aa g gd B W) a(t:ew a) :
 aK aR 115 #[aj (I ⟨g,0,U⟩),dD a] W λe j=>e=ak (G J (gg B (iK B.bI a)).2)/\fB X aa g gd (gg B (iK B.bI a)).1 j/\bf (λk=>¬aa k) W j :=
 h.call (λp y e=>kg e▸atb y h.1.todq a) (h.1.Fi t)
theorem aB9(h:fB X aa g gd B W) a :aK aR 51 #[aj (I ⟨g,0,U⟩),dD a] W λe j=>e=ak (G J (GG B a))/\K W j:=by obtain⟨y,p,z,t,-⟩:=h;obtain rfl:=kg t;exact ati z y.todq a
theorem aDZ(h:fB X aa g gd B W) c j :aK aR 69 #[aj (I ⟨g,0,U⟩),G J c,G J j] W λe t=>∃y,e=ak (au #[y,G J (sq B c j).2.1,G J (sq B c j).2.2])/\cW (D (L W)) (D (L W)) 35 eB (sq B c j).1 y t/\K W t:=by obtain⟨C,p,z,A,-⟩:=h;obtain rfl:=kg A;exact avt z C.todq c j
theorem aDg(h:fB X aa g gd B W) :aK aR 43 #[aj (I ⟨g,0,U⟩)] W λe j=>∃vl vp va,e=ak (av (eO B.st vl vp va))/\nC (λk=>k<D (L W)) B.st vl vp va j/\K W j:=by obtain⟨y,p,z,t,-⟩:=h;obtain rfl:=kg t;exact atV z y.todq
theorem fB.new{gd vh e q}(h:abA gd vh B W e W' q)(z:ic B)(y:∀k,X k->k<D (L W))(t:∀k,aa k->¬nE gd vh k/\k<D (L W)):fB X aa q.g gd B W'/\bf (λk=>¬aa k) W W':=by refine⟨⟨z,q,h.br.less (λ_ h=>aJ h) (λk h=>h.imp (y k) id),(by unfold qu.key;rw[h.dd]),λk j=>⟨λA=>?_,cZ (t k j).2 h.up.size⟩⟩,h.up.more λk j hz=>(t k hz).1 j⟩;rcases h.new k A with h|h;all_goals grind
end
theorem dq.open_{me p bj d s}(y:iH p=aA)(hm:iW p me=aA)(t:mU p bj=aA)(j:jr d s):ic (xq me p bj d s) :=
 ⟨⟨y,hm,t,j,lH.nil,zJ,zJ,zJ,zJ,zJ,zJ⟩,ju.nil⟩
section
variable {X aa:Nat->Prop}{g gd:Nat}{B:cJ}{W:aP}
theorem aCa(h:fB X aa g gd B W)(A:mV B)(z:Z B.cA+16<=1000000) j b t(hb:sl b t W)(C:Z b<=1000000000) :
 aK aR 106 #[aj (I ⟨g,0,U⟩),G J j,t] W λe y=>e=ak (G J (jc B j b).2)/\fB X aa g gd (jc B j b).1 y/\bf (λk=>¬aa k) W y :=
 h.call (λp H e=>kg e▸atp H h.1.todq A z j b t hb C) (Xo A h.1 j b z).1
theorem aDh(h:fB X aa g gd B W) a(t:ew a) :
 aK aR 116 #[aj (I ⟨g,0,U⟩),dD a] W λe j=>e=ak (G J (gg B (jD B.bI a)).2)/\fB X aa g gd (gg B (jD B.bI a)).1 j/\bf (λk=>¬aa k) W j :=
 h.call (λp y e=>kg e▸atP y h.1.todq a) (h.1.abort t)
end
def uB(j:Nat->Prop)(gd:Nat)(d:rP)(W:aP):Prop:=∃vh,Mj gd vh d W/\∀k,j k->¬nE gd vh k/\k<D (L W)
theorem jr.abT{d s}(h:jr d s):Jm (d.ie.map dG):=Jm.all (by have:=h.cnt;simp;omega) (by
 intro b j;obtain⟨r,t,rfl⟩:=List.mem_map.1 j;have:=(h.ie r t).2.2;omega)
section
variable {X aa:Nat->Prop}{g gd:Nat}{B:cJ}{W W':aP}
theorem uB.st{d}(h:uB aa gd d W)(k:K W W'):uB aa gd d W':=h.imp λ_ h=>⟨h.1.st k,λj t=>⟨(h.2 j t).1,cZ (h.2 j t).2 k.size⟩⟩
theorem fB.dk(h:fB X aa g gd B W):uB aa gd B.dk W:=by obtain⟨-,p,z,t,hz⟩:=h;obtain rfl:p.gd=gd:=congrArg Prod.snd t;exact⟨p.vd,z.lg.dk,λk j=>⟨λy=>(hz k j).1 (aJ (aJ (aJ (aJ (aJ y))))),(hz k j).2⟩⟩
theorem aDi{d}(h:uB aa gd d W) keep(hk:dA keep) :aK aR 111 #[aj (I ⟨gd,0,U⟩),G J keep] W λe j=>e=ak (au #[])/\uB aa gd d j/\bf (λk=>¬aa k) W j:=by obtain⟨vh,y,hz⟩:=h;apply bW (atK gd vh (ly d) d.room keep W y hk);rintro j⟨z,t⟩;exact⟨rfl,⟨vh,z,λk hk=>⟨(hz k hk).1,cZ (hz k hk).2 t.up.size⟩⟩,t.up.more λk hk A=>(hz k A).1 hk⟩
theorem aD0{d s}(h:uB aa gd d W)(O:jr d s)(hA:Jm (d.ie.map dG))(Q:s.life+1<18446744073709551616) p bj me B A(S:Fx (λk=>¬aa k) (λW=>bD eH p B W) W)(R:Fx (λk=>¬aa k) (λW=>bD eH bj A W) W)(N:iH p=aA)(hm:iW p me=aA)(C:mU p bj=aA)(H:jM (fA (eN s))<=d.room)(T:∀k,X k->aa k) :aK aR 85 #[G J me,B,A,aj (I ⟨gd,0,U⟩)] W λe z=>∃g,e=ak (au #[aj (I ⟨g,0,U⟩),G J 0])/\fB X aa g gd (xq me p bj ⟨fA (eN s),d.room⟩ (eN s)) z/\bf (λk=>¬aa k) W z/\D (L W)<=g:=by
 obtain⟨vh,P,hz⟩:=h;have M:∀k,nE gd vh k->¬aa k:=λk t V=>(hz k V).1 t
 refine (afw gd vh d s p bj me B A W P O hA Q (S.less M) (R.less M) N hm C).mono ?_;intro e z j;unfold GK at j;rw[bV H]at j;obtain⟨q,y⟩:=j;obtain⟨Y,u⟩:=fB.new (X:=X) y (dq.open_ N hm C (O.life H)) (λk t=>(hz k (T k t)).2) hz;exact⟨q.g,y.ret,Y,u,y.g⟩
end
def BG:fy aQ where
 size:=1
 rel:=λv t _=>t=[v]/\v.oneCell'=aA
 len:=by rintro _ _ _⟨rfl,_⟩;rfl
 one:=by rintro _ _ _⟨rfl,h⟩ u j;simp at j;exact j▸h
 st:=λh _=>h
structure nY where
 gw:Nat
 gb:Nat
 vp:aQ
 vh:aQ
 vn:aQ
 vd:aQ
 vc:aQ
 vg:aQ
 vs:List aQ
 ds:List Nat
 bC:List (Int×aQ)
structure OvC(H:nY)(own:Nat->Nat)(O:cT)(W:aP):Prop where
 blk:bn W H.gw 105 #[H.vp,H.vh,H.vn,H.vd,.map (I H.gb),H.vc,H.vg]
 map:fP encI W H.gb H.bC
 oob:∀k,iW O.par k=az->eX H.bC k=U
 cur:bK (λ_=>True) 0 3 eH O.cur H.vc W
 got:bK (λ_=>True) 0 78 BG H.vs H.vg W
 own:own H.gw=2/\own H.gb=2/\(∀k,aW H.vc=I k->own k=2)/\∀k,aW H.vg=I k->own k=2
 len:Z H.vs=Z O.got
 kn:(H.bC.map (·.1)).Nodup
def OvB(H:nY)(own:Nat->Nat)(W:aP)(n:Nat)(x:zx):Prop:=∃gd,H.ds[n]?=I gd /\
 (∀B,x.up=I B->∃g,eX H.bC (n:Int)=I (aj (I ⟨g,0,U⟩))/\fB (λk=>own k≠0/\own k≠2*n+4) (λk=>own k≠2*n+4/\k<D (L W)) g gd B W) /\
 (x.up=U->eX H.bC (n:Int)=U/\uB (λk=>own k≠2*n+4/\k<D (L W)) gd x.dk W)
structure cS(H:nY)(own:Nat->Nat)(O:cT)(W:aP)(S:Nat->Prop):Prop where
 lo:∀k,own k≠0->k<D (L W)
 fx:Fx (λk=>own k≠0) (λW=>bD eH O.par H.vp W/\bD eH O.bj H.vh W/\bD BG (H.ds.map λg=>aj (I ⟨g,0,U⟩)) H.vd W) W
 im:S 2->OvC H own O W
 dV:S 3->∃gn,H.vn=aj (I ⟨gn,0,U⟩)/\pC (λk=>own k≠0) (λk=>own k=3) gn O.dV W
 brk:∀n x,S (2*n+4)->O.eV[n]?=I x->OvB H own W n x
 got:∀c l,S (2*c+5)->O.got[c]?=I l->∃v,H.vs[c]?=I v/\bK (λk=>own k≠0) 0 43 (abf eB) l v W/\∀k,aW v=I k->own k=2*c+5
section
variable {X X' aa Z' Y M M' C C' S S':Nat->Prop}{g gd gn:Nat}{B:cJ}{W W':aP}{H:nY}{own dw:Nat->Nat}{O:cT}{d:rP}{aT:List kI}
theorem fB.to(h:fB X aa g gd B W)(u:bf Y W W')(y:∀k,Y k->X k/\aa k)(C:∀k,X' k->X k\/(D (L W)<=k/\k<D (L W')))(O:∀k,Z' k->aa k\/(D (L W)<=k/\k<D (L W'))):fB X' Z' g gd B W':=by obtain⟨z,p,t,A,hz⟩:=h;have:=t.low;have:=u.size;refine⟨z,p,t.far u (λk j=>aI (y k j).1) (λk j=>(hz k (y k j).2).1) (λk j H=>H.imp_left λh=>(C k h).resolve_right aZ) (λ_ h=>aJ h) (λk j=>?_),A,λk j=>?_⟩;all_goals grind
theorem uB.to(h:uB aa gd d W)(u:bf Y W W')(z:∀k,Y k->aa k)(C:∀k,Z' k->aa k\/(D (L W)<=k/\k<D (L W'))):uB Z' gd d W':=by obtain⟨vh,j,hz⟩:=h;have:=j.lt;have:=u.size;refine⟨vh,j.cF u λk t y=>(hz k (z k y)).1 t,λk t=>?_⟩;grind
theorem cS.to(h:cS H own O W S)(u:bf X W W')(z:∀k,X k->own k≠0/\¬S' (own k))(M:∀i,S' i->S i)(ho:∀k,k<D (L W)->dw k=own k)(hn:∀k,D (L W)<=k->dw k≠0->k<D (L W')/\¬S' (dw k)):cS H dw O W' S':=by
 have:=u.size;have hm:∀k,k<D (L W)->dw k≠0->own k≠0:=λk t e=>ho k t▸e
 have C:∀j,S' j->j≠0->∀k,dw k=j↔own k=j:=λj hj h0 k=>by
  by_cases t:k<D (L W)
  .grind
  exact⟨λe=>absurd hj (e▸(hn k aZ aZ).2),λe=>by have:=h.lo k (by omega);omega⟩
 have hx:∀k,dw k≠0->own k≠0\/(D (L W)<=k/\k<D (L W')):=λk e=>by grind
 refine⟨λk t=>bL,h.fx.to u (λk t=>(z k t).1) hm,λy=>?_,λV=>?_,λn x Q hn'=>?_,λc l Y hl=>?_⟩;obtain⟨a1,a2,a3,a4,a5,⟨b1,b2,b3,b4⟩,a7,a8⟩:=h.im (M _ y);have no:∀k,own k=2->¬X k:=λk e t=>(z k t).2 (e▸y)
 have A:=C 2 y bG;exact⟨a1.cF u (no _ b1),a2.cF u (no _ b2),a3,a4.to u (λ_ _=>trivial) (λk t=>no k (b3 k t)) (λ_ _ _=>aI trivial),a5.to u (λ_ _=>trivial) (λk t=>no k (b4 k t)) (λ_ _ _=>aI trivial),⟨(A _).2 b1,(A _).2 b2,λk t=>(A k).2 (b3 k t),λk t=>(A k).2 (b4 k t)⟩,a7,a8⟩;obtain⟨gn,e,hN⟩:=h.dV (M _ V);have e3:=C 3 V bG;rw[show (λk=>dw k=3)=λk=>own k=3 from funext λk=>propext (e3 k)];exact⟨gn,e,hN.to u (λk t=>(z k t).1) (λk e t=>(z k t).2 (e▸V)) hm λk e=>bL⟩;obtain⟨gd,e,R,y⟩:=h.brk n x (M _ Q) hn';have e4:=C _ Q aZ;have hz:∀k,dw k≠2*n+4/\k<D (L W')->(own k≠2*n+4/\k<D (L W))\/(D (L W)<=k/\k<D (L W')):=λk t=>by grind
 have T:∀k,X k->own k≠2*n+4/\k<D (L W):=λk t=>⟨λe=>(z k t).2 (e▸Q),h.lo k (z k t).1⟩
 refine⟨gd,e,λB N=>?_,λN=>⟨(y N).1,(y N).2.to u T hz⟩⟩;obtain⟨g,A,hL⟩:=R B N;exact⟨g,A,hL.to u (λk t=>⟨⟨(z k t).1,(T k t).1⟩,T k t⟩) (λk t=>(hx k t.1).imp_left λh=>⟨h,λe=>t.2 ((e4 k).2 e)⟩) hz⟩;obtain⟨v,e,R,y⟩:=h.got c l (M _ Y) hl;have e5:=C _ Y aZ;exact⟨v,e,R.to u (λk t=>(z k t).1) (λk e t=>(z k t).2 (y k e▸Y)) (λk t e=>aI (hm k t e)),λk e=>(e5 k).2 (y k e)⟩
theorem cS.st(h:cS H own O W S)(k:K W W'):cS H own O W' S :=
 h.to (bf.cz k λ_=>False) (λ_ h=>h.elim) (λ_ h=>h) (λ_ _=>rfl) λj t e=>by have:=h.lo j e;omega
def lh(own:Nat->Nat)(i:Nat)(W W':aP)(k:Nat):Nat:=if D (L W)<=k then (if k<D (L W')then i else 0)else own k
theorem amw(h:cS H own O W S){i}(z:i≠0)(u:bf X W W')(y:∀k,X k->own k=i):cS H (lh own i W W') O W' (λj=>S j/\j≠i) :=h.to u (λk t=>⟨y k t▸z,λe=>e.2 (y k t)⟩) (λ_ h=>h.1) (λk t=>I1) λk t e=>by
 unfold lh at *;rw[bV t]at *;split
 .next h2=>rw[bV h2]at e;exact⟨h2,λh=>h.2 rfl⟩
 next h2=>rw[bQ h2]at e;exact absurd rfl e
end
def eJ(i:Nat):Prop:=2<=i
theorem p2:eJ 2:=bP 2
theorem pB n:eJ (2*n+4):=by grind [eJ]
def eW(H:nY)(own:Nat->Nat)(y:cT)(w w':aP):Prop :=
 ∃t j,cS t j y w' eJ/\t.gw=H.gw/\bf (λk=>2<=own k) w w'/\∀k,k<D (L w)->j k=own k
section
variable {X S:Nat->Prop}{W W' W2:aP}{H H1:nY}{own Jr:Nat->Nat}{O O':cT}{n g gd gn:Nat}{B B':cJ}{x:zx}{aT:List kI}
theorem cS.now(h:cS H own O W eJ)(k:K W W'):eW H own O W W':=⟨H,own,h.st k,rfl,bf.cz k _,λ_ _=>rfl⟩
theorem eW.tr(u:bf (λk=>2<=own k) W W')(hg:H1.gw=H.gw)(t:∀k,k<D (L W)->Jr k=own k)(h:eW H1 Jr O' W' W2):eW H own O' W W2:=by obtain⟨z,y,C,A,M,B⟩:=h;have:=u.size;exact⟨z,y,C,A.trans hg,u.ir M λk j e=>t k j▸e,λk j=>(B k aZ).trans (t k j)⟩
theorem eW.k(k:K W W')(h:eW H own O' W' W2):eW H own O' W W2:=eW.tr (bf.cz k _) rfl (λ_ _=>rfl) h
theorem eW.of(u:bf X W W')(y:∀k,X k->k<D (L W)->2<=own k){i}(h:cS H1 (lh own i W W') O' W' eJ)(hg:H1.gw=H.gw):eW H own O' W W' :=
 ⟨H1,_,h,hg,⟨u.os,u.tape,u.output,u.size,λk j t=>u.block k j λz=>t (y k z j)⟩,λk A=>I1⟩
theorem cS.EJ(h:cS H own O W eJ)(k:K W W'):cS H (lh own 1 W W') O W' eJ:=by
 refine h.to (bf.cz k λ_=>False) (λ_ h=>h.elim) (λ_ h=>h) (λk y=>by grind [lh]) λj t e=>?_
 unfold lh at *;grind [eJ,lh]
theorem eW.EJ(k:K W W'){b W3}(hb:D (L W)<=b)(y:b<D (L W'))(h:eW H (lh own 1 W W') O' W' W2)(u:bf (λk=>k=b) W2 W3):eW H own O' W W3:=by
 obtain⟨C,B,h1,M,N,z⟩:=h;have t:∀k,k<D (L W)->lh own 1 W W' k=own k:=λk j=>by grind [lh]
 have j:=k.size;have A:=z b y;unfold lh at A;rw[bV hb,bV y]at A;refine⟨C,B,h1.to u (λk j=>by grind [eJ]) (λ_ h=>h) (λ_ _=>rfl) λk j e=>aay,M,?_,λk j=>(z k aZ).trans (t k j)⟩;exact ((bf.cz k _).ir N λk j e=>t k j▸e).ir u λk j e=>aZ
theorem cS.up(h:cS H own O W S)(t:S (2*n+4))(y:Z O.eV=Z O.par)(j:eK O n=I B) :∃gd g,H.ds[n]?=I gd/\eX H.bC (n:Int)=I (aj (I ⟨g,0,U⟩))/\fB (λk=>own k≠0/\own k≠2*n+4) (λk=>own k≠2*n+4/\k<D (L W)) g gd B W:=by
 unfold eK at j;split at j
 .obtain⟨x,h1,h2⟩:=Option.bind_eq_some_iff.1 j;rw[Int.toNat_natCast]at h1;obtain⟨gd,e,z,-⟩:=h.brk n x t h1;grind
 cases j
theorem cS.down(h:cS H own O W S)(t:S 2)(y:∀n,S (2*n+4))(z:Z O.eV=Z O.par){m}(j:eK O m=U):eX H.bC m=none:=by
 unfold eK at j;split at j
 .next hi =>
  unfold mi iW at hi;simp only[fI,decide_eq_true_eq]at hi;obtain⟨n,rfl⟩:=Int.eq_ofNat_of_zero_le hi.1;rw[Int.toNat_natCast,aE (show n<Z O.eV by omega)]at j;obtain⟨gd,e,-,A⟩:=h.brk n O.eV[n] (y n) (aE aZ);grind
 next hi=>exact (h.im t).oob m (by grind [mi])
theorem Sj{i k}(j:∀k,own k≠0->k<D (L W))(hk:lh own i W W' k≠i/\(k<D (L W')\/lh own i W W' k≠0)):own k≠i/\k<D (L W)/\lh own i W W' k=own k:=by grind [lh]
theorem cS.ao0(h:cS H own O W S)(hn:n<Z O.eV)(u:bf (λk=>¬(own k≠2*n+4/\k<D (L W))) W W')(hB:OvB H (lh own (2*n+4) W W') W' n x):cS H (lh own (2*n+4) W W') (lf O n x) W' S:=by
 have R:bf (λk=>own k=2*n+4) W W':=⟨u.os,u.tape,u.output,u.size,λk A z=>u.block k A λt=>t ⟨z,A⟩⟩;have j:=amw h aZ R λ_ h=>h
 refine⟨j.lo,j.fx,λz=>?_,λV=>j.dV ⟨V,aZ⟩,λm y hm t=>?_,λc l Y=>j.got c l ⟨Y,aZ⟩⟩;obtain⟨M,N,X,B,Q,a6,T,C⟩:=j.im ⟨z,aZ⟩;exact⟨M,N,X,B,Q,a6,T,C⟩;simp only[lf,Int.toNat_natCast,List.getElem?_set]at t;by_cases e:n=m
 .grind
 rw[bQ e]at t;exact j.brk m y ⟨hm,aZ⟩ t
theorem cS.put(h:cS H own O W S)(hn:n<Z O.eV)(j:H.ds[n]?=I gd)(hg:eX H.bC (n:Int)=I (aj (I ⟨g,0,U⟩)))(t:fB (λk=>own k≠0/\own k≠2*n+4) (λk=>own k≠2*n+4/\k<D (L W)) g gd B' W')(u:bf (λk=>¬(own k≠2*n+4/\k<D (L W))) W W'):cS H (lh own (2*n+4) W W') (oB O n B') W' S:=by refine h.ao0 hn u ⟨gd,j,λB e=>?_,λe=>uC⟩;injection e with e;subst e;exact⟨g,hg,t.less (λk hk=>by have:=Sj h.lo ⟨hk.2,aJ hk.1⟩;exact⟨this.2.2▸hk.1,this.1⟩) λk hk=>amx⟩
theorem cS.ao1{d}(h:cS H own O W S)(hn:n<Z O.eV)(t:H.ds[n]?=I gd)(hg:eX H.bC (n:Int)=U)
 (y:uB (λk=>own k≠2*n+4/\k<D (L W)) gd d W') (u:bf (λk=>¬(own k≠2*n+4/\k<D (L W))) W W'):cS H (lh own (2*n+4) W W') (lf O n ⟨U,d⟩) W' S :=
 h.ao0 hn u ⟨gd,t,λB e=>uC,λ_=>⟨hg,y.imp λvh j=>⟨j.1,λk hk=>j.2 k amx⟩⟩⟩
theorem cS.less{t}(h:cS H own O W S)(j:∀i,t i->S i):cS H own O W t :=
 ⟨h.lo,h.fx,λe=>h.im (j _ e),λe=>h.dV (j _ e),λn x e=>h.brk n x (j _ e),λc l e=>h.got c l (j _ e)⟩
theorem cS.map{bC}(h:cS H own O W λj=>S j/\j≠2*n+4)(h2:S 2)(hn:n<Z O.eV)(hl:Z O.eV=Z O.par)(hm:fP encI W' H.gb bC)(hk:(bC.map (·.1)).Nodup)(N:∀m,m≠(n:Int)->eX bC m=eX H.bC m)(u:bf (λk=>k=H.gb) W W')(A:OvB { H with bC:=bC } own W' n x):cS { H with bC:=bC } own (lf O n x) W' S:=by
 obtain⟨X,a2,a3,T,R,⟨Y,b2,b3,b4⟩,a7,a8⟩:=h.im ⟨h2,aZ⟩;have z:cS H own O W' λj=>(S j/\j≠2*n+4)/\j≠2:=h.to u (λk e=>bL) (λ_ h=>h.1) (λ_ _=>rfl) λk hk e=>aaz
 have hne:∀t Q k,bn W k t Q->k≠H.gb:=λt Q k C e=>(e▸a2).cells C
 refine⟨z.lo,z.fx,λ_=>⟨X.cF u (hne _ _ _ X),hm,λk e=>?_,T.to u (λ_ _=>trivial) (λk hk e=>?_) (λ_ _ _=>aI trivial),R.to u (λ_ _=>trivial) (λk hk e=>?_) (λ_ _ _=>aI trivial),⟨Y,b2,b3,b4⟩,a7,hk⟩,λh3=>z.dV ⟨⟨h3,aZ⟩,aZ⟩,λm y hm M=>?_,λc l hc=>z.got c l ⟨⟨hc,aZ⟩,aZ⟩⟩
 .refine (N k λe'=>?_).trans (a3 k e);subst e';have e:iW O.par (n:Int)=false:=e;unfold iW at e;grind
 .obtain⟨_,_,_,C⟩:=T.own hk;grind
 .obtain⟨_,_,_,C⟩:=R.own hk;grind
 simp only[lf,Int.toNat_natCast,List.getElem?_set]at M;by_cases e:n=m
 .grind
 rw[bQ e]at M;obtain⟨gd,e1,e2,V⟩:=z.brk m y ⟨⟨hm,aZ⟩,aZ⟩ M;have hq':=N (m:Int) aZ;refine⟨gd,e1,λB A=>?_,λA=>⟨hq'.trans (V A).1,(V A).2⟩⟩;grind
theorem cS.ao2(h:cS H own O W eJ)(hn:n<Z O.eV)(j:H.ds[n]?=I gd)(hg:eX H.bC (n:Int)=I (aj (I ⟨g,0,U⟩)))
 (t:fB (λk=>own k≠0/\own k≠2*n+4) (λk=>own k≠2*n+4/\k<D (L W)) g gd B' W') (u:bf (λk=>¬(own k≠2*n+4/\k<D (L W))) W W'):eW H own (oB O n B') W W' :=
 eW.of u (λk y _=>aZ) (i:=2*n+4) (h.put hn j hg t u) rfl
theorem cS.Lt(h:cS H own O W S)(B:H.vn=aj (I ⟨gn,0,U⟩))(V:pC (λk=>own k≠0) (λk=>own k=3) gn aT W')(u:bf (λk=>own k=3) W W'):cS H own { O with dV:=aT } W' S:=by
 have t:cS H own O W' λj=>S j/\j≠3:=h.to u (λk A=>aZ) (λ_ h=>h.1) (λ_ _=>rfl) λk A e=>aaz
 exact⟨t.lo,t.fx,λM=>by
  obtain⟨C,N,T,y,Q,Y,R,z⟩:=t.im ⟨M,aZ⟩;exact⟨C,N,T,y,Q,Y,R,z⟩,λ_=>⟨gn,B,V⟩,λm x hm=>t.brk m x ⟨hm,aZ⟩,λc l X=>t.got c l ⟨X,aZ⟩⟩
theorem cS.T1(h:cS H own O W eJ)(t:H.vn=aj (I ⟨gn,0,U⟩))(j:pC (λk=>own k≠0) (λk=>own k=3) gn aT W')(u:bf (λk=>own k=3) W W'):eW H own { O with dV:=aT } W W' :=
 ⟨H,own,h.Lt t j u,rfl,u.more λk y=>aZ,λ_ _=>rfl⟩
end
section
variable {S:Nat->Prop}{W:aP}{H:nY}{own:Nat->Nat}{O:cT}
theorem Nw(h:cS H own O W S)(t:S 2) n :aK aR 42 #[aj (I ⟨H.gw,0,U⟩),G J n] W λe j=>e=ak (ar (mi O n))/\j=W:=by have q:=(h.im t).blk.cell;obtain⟨A,c,e,-⟩:=h.fx.now.1;rw[e]at q;have HI:Hid (mi O n=(decide (0<=n)&&decide (n<(Z O.par:Int)))):=aY rfl;generalize mi O n=R at *;go_in;by_cases h0:0<=n;by_cases h1:n<(Z O.par:Int);exact amy;exact amz;exact amA
theorem aeN(h:cS H own O W S)(t:S 2) n :aK aR 72 #[aj (I ⟨H.gw,0,U⟩),G J n] W λe j=>e=ak (ar (oh O n))/\j=W:=by have q:=(h.im t).blk.cell;obtain⟨A,c,e,-⟩:=h.fx.now.2.1;rw[e]at q;have HI:Hid (oh O n=(decide (0<=n)&&decide (n<(Z O.bj:Int)))):=aY rfl;generalize oh O n=R at *;go_in;by_cases h0:0<=n;by_cases h1:n<(Z O.bj:Int);exact amy;exact amz;exact amA
theorem ah2(j:oA O){m}(hm:m<Z O.bj):pP O m=O.bj[m]/\iW O.par O.bj[m]=true:=by refine⟨by grind [pP],?_⟩;have:=j.hm;simp only[mU,fI,yq]at this;exact this.2 _ (dJ hm)
theorem cS.look(h:cS H own O W S)(y:S 2)(j:∀n,S (2*n+4))(t:oA O) m:(eX H.bC m).isSome=(eK O m).isSome/\∃v,(eX H.bC m).getD (aj U)=aj v:=by
 cases hu:eK O m with
 | none=>rw[h.down y j t.ln hu];exact⟨rfl,_,rfl⟩
 | some B =>
  have hm:0<=m:=by grind [eX,eK,mi,iW]
  obtain⟨n,rfl⟩:=Int.eq_ofNat_of_zero_le hm;obtain⟨gd,g,-,z,-⟩:=h.up (j n) t.ln hu;grind
theorem cS.q(h:cS H own O W S)(t:S 2):∀j,K W j->∀m,(Instr.lookup 100 (.map (I H.gb)) (G J m) aA).run aR j=.ok (au #[(eX H.bC m).getD (aj U),ar (eX H.bC m).isSome]) j/\(Instr.lookup 100 (.map (I H.gb)) (G J m) az).run aR j=.ok ((eX H.bC m).getD (aj U)) j:=λj k m =>
 E0 (D3 (P:=aR) (kt:=3) underlying3) underlying100 (z:=aj U) gP ((h.im t).map.st k) m
theorem RO(h:cS H own O W S)(j:S 2)(z:∀n,S (2*n+4))(C:oA O) n :aK aR 55 #[aj (I ⟨H.gw,0,U⟩),G J n] W λe t=>e=ak (ar (eK O n).isSome)/\t=W:=by
 have B:=aY (Nw h j n);have q:=(h.im j).blk.cell;have A:=(h.q j W (K.rf W) n).1;obtain⟨y,v,N⟩:=h.look j z C n;rw[y,N]at A;have M:Hid (mi O n=az->(eK O n).isSome=az):=aY λe=>by unfold eK;rw[e];rfl
 generalize (eK O n).isSome=R at *;go_in;go_wp2_with fail
 apply bW B.aX;rintro t rfl;cases hi:mi O n;have HR:=aY (M.aX hi);exact OG;go_wp2;go_ret;exact⟨rfl,rfl⟩
def oD(H:nY)(O:cT)(c:Int):aQ×Int:=if oh O c then (if (eK O (pP O c)).isSome then ((eX H.bC (pP O c)).getD (aj U),0)else (aj U,210))else (aj U,1)
theorem Ng(h:cS H own O W S)(t:S 2)(hS:∀n,S (2*n+4))(T:oA O) c :aK aR 53 #[aj (I ⟨H.gw,0,U⟩),G J c] W λe z=>e=ak (au #[(oD H O c).1,G J (oD H O c).2])/\K W z:=by
 have y:=aY (aeN h t c);have q:=(h.im t).blk.cells;have ql0:=h.q t;obtain⟨A,cc,e,hl,-⟩:=h.fx.now.2.1;rw[e]at q;have M:=h.look t hS T (pP O c);have j:Hid (oD H O c=if oh O c then (if (eK O (pP O c)).isSome then ((eX H.bC (pP O c)).getD (aj U),0)else (aj U,210))else (aj U,1)):=aY rfl;generalize oD H O c=R at *;have X:=K.rf W;cases hc:oh O c
 .have HR:Hid (R=(aj U,1)):=aY (by rw[j.aX,hc];rfl);rw[hc]at y;go_in;go_wp2_with fail
  apply bW y.aX;rintro z rfl;go_wp2;go_ret2;exact⟨jB,X⟩
 rw[hc]at y j;unfold oh at hc;simp only[fI,decide_eq_true_eq]at hc;obtain⟨m,rfl⟩:=Int.eq_ofNat_of_zero_le hc.1;have hm:m<Z O.bj:=aZ;have Y:=hc.2;obtain⟨b,off,rfl,hcell⟩:=ints_at hl aZ;have hx:=λW k=>hcell W k m hm
 rw[(ah2 T hm).1]at M j;generalize O.bj[m]=x at *;obtain⟨e1,v,N⟩:=M;have C:=λW k=>(ql0 W k x).1
 rw[e1,N]at C;rw[N]at j;generalize (eK O x).isSome=Q at *;have HR:Hid (R=if Q then (aj v,0)else (aj U,210)):=aY j.aX;go_in;go_wp2_with fail
 apply bW y.aX;rintro z rfl;go_wp2_with fail
 have qs:=aB q (aB C (aB hx Y));refine fD 16 ?_;iterate 16 refine bB.i ?_
 intro V W2 B hA;simp only[bZ,cC,dF,bS,Nat.reduceAdd]at hA;refine bN.p ?_;refine bN.h ?_;cases Q
 .go_wp2;go_ret2;exact⟨jB,B⟩
 go_wp2;go_ret2;exact⟨jB,B⟩
def Ec(H:nY)(O:cT)(c:Int)(a:bY):aQ×Int:=if (oD H O c).2=0/\a.1≠pP O c then (aj U,1)else oD H O c
theorem aeO(h:cS H own O W S)(Y:S 2)(hS:∀n,S (2*n+4))(hs:oA O) c a :aK aR 50 #[aj (I ⟨H.gw,0,U⟩),G J c,dD a] W λe w'=>e=ak (au #[(Ec H O c a).1,G J (Ec H O c a).2])/\K W w':=by
 have C:=aY λt (k:K W t)=>Ng (h.st k) Y hS hs c
 have q:=(h.im Y).blk.cells;obtain⟨A,cc,e,hl,-⟩:=h.fx.now.2.1;rw[e]at q;obtain⟨j,N,Q⟩:=a;have HW:Hid (Ec H O c (j,N,Q)=if (oD H O c).2=0/\j≠pP O c then (aj U,1)else oD H O c):=aY rfl;generalize Ec H O c (j,N,Q)=R at *;dsimp only[dD];by_cases h0:(oD H O c).2=0
 .have hc:oh O c=true:=by
   unfold oD at h0;cases hc:oh O c
   .grind
   rfl
  unfold oh at hc;simp only[fI,decide_eq_true_eq]at hc;obtain⟨m,rfl⟩:=Int.eq_ofNat_of_zero_le hc.1;have hm:m<Z O.bj:=aZ;have xV:=hc.2;obtain⟨b,off,rfl,hcell⟩:=ints_at hl aZ;have z:=λW k=>hcell W k m hm
  rw[(ah2 hs hm).1]at HW;generalize O.bj[m]=x at *;obtain⟨v,M⟩:∃v,(oD H O m).1=aj v:=by
   unfold oD;obtain⟨v,e⟩:=(h.look Y hS hs (pP O m)).2;split
   .grind
   simp
  have HR:Hid (R=if j=x then (aj v,0)else (aj U,1)):=aY (by
   rw[HW.aX,h0];by_cases z:j=x
   .grind
   simp[z])
  rw[M,h0]at C;go_in;have gj:=bn.new W 42 #[G J j,G E N,G E Q];have B:=gj.cG;go_wp2_with fail
  apply eu (C.aX _ B) B;intro X k1 y;have qb:=(gj.bM k1).cells;replace q:=λt (k:K X t)=>q t (y.tr k)
  replace z:=λt (k:K X t)=>z t (y.tr k)
  go_wp2_with fail
  have qs:=aB q (aB qb (aB z xV));refine fD 9 ?_;iterate 9 refine bB.i ?_
  intro V W2 kW hA;simp only[bZ,cC,dF,bS,Nat.reduceAdd]at hA;refine bN.p ?_;refine bN.h ?_;have kF:=y.tr kW;by_cases T:j=x
  .rw[bV T]at HR;subst T;go_wp2;go_ret2;exact⟨jB,kF⟩
  rw[bQ T]at HR;have:(j != x)=true:=by simpa using T
  go_wp2;go_ret2;exact⟨jB,kF⟩
 have HR:Hid (R=oD H O c):=aY (by rw[HW.aX,bQ λe=>h0 e.1]);have hne:((oD H O c).2 != 0)=true:=NR;have M:(oD H O c).1=aj none:=by
  unfold oD at h0|-;split <;> try split
  all_goals simp_all
 generalize oD H O c=r at *;obtain⟨v,d⟩:=r;simp only at hne C M;subst M;go_in;have B:=K.new W (aq #[G J j,G E N,G E Q] 42);go_wp2_with fail
 apply eu (C.aX _ B) B;intro X k1 y;go_wp2;go_ret2;exact⟨jB,y⟩
end
theorem avu{B}(y:dq B)(t:mV B):∀x∈xv B,Z x.2<=1000000000:=by
 have key:∀(k:Int) (m:ig),pU m->∀x∈xu k m,Z x.2<=1000000000:=λk m hm x j=>by grind [xu,aAL,jO]
 intro x j;grind [xv,vW,vX,Xb,WR]
def Dr(m:Int)(p bj:List Int)(B:cJ):Prop:=B.me=m/\B.par=p/\B.bj=bj
section
variable {m:Int}{p bj:List Int}{B:cJ}
theorem Dr.note B r(h:Dr m p bj B):Dr m p bj (eQ B r).1:=by
 unfold eQ;split;split <;> exact h
 exact h
theorem Dr.handle(h:Dr m p bj B)(y:dq B) t b:Dr m p bj (jc B t b).1:=by
 unfold jc;split
 .split;exact h;next x hx =>
  split;have j:=KK (NG (k:=t) y (ND hx).2 (NM hx));exact⟨j.me.trans h.1,j.par.trans h.2.1,j.bj.trans h.2.2⟩;split;exact ahi Dr.note (λ_ _ h=>h) (λ_ _ h=>h) h x;exact h
 exact h
end
structure Py(par bj:List Int)(n:Nat)(x:zx)(k:Nat):Prop where
 down:x.up=U->∃s,jr x.dk s/\s.life<=k+1/\(∀a∈s.ab,dM s.bq a=az)/\Z s.bF<=6
 up:∀B,x.up=I B->x.dk=B.dk/\ic B/\mD B k/\B.st.life<=k+1/\Dr n par bj B
structure cU(par bj:List Int)(O:cT)(k:Nat):Prop where
 iE:oA O
 wj:O.par=par
 LH:O.bj=bj
 eV:∀(n:Nat) x,O.eV[n]?=I x->Py par bj n x k
 key:O.dV.map (·.1)=(I3 par).map (·.1)
 few:∀q∈O.dV,Z q.2<=8
 gl:∀l∈O.got,Z l<=k
structure DX(B B':cJ)(k:Nat):Prop where
 aFp:ic B'
 run:mD B' k
 life:B'.st.life=B.st.life
 me:∀ {m p bj},Dr m p bj B->Dr m p bj B'
theorem mD.mono{B n k}(h:mD B n)(hk:n<=k):mD B k:=⟨h.inv,h.fit,by have:=h.cA;omega,by have:=h.calls;omega⟩
theorem Fj{O m B}(h:eK O m=I B):∃n:Nat,m=(n:Int)/\n<Z O.par/\∃x,O.eV[n]?=I x/\x.up=I B:=by grind [eK,mi,iW]
theorem DQ{d s}(h:jr d s):vL d=s:=by unfold vL;rw[h.run];rfl
theorem aAU B c lay:(jF B c lay).1.st=B.st/\(jF B c lay).1.me=B.me/\(jF B c lay).1.par=B.par/\(jF B c lay).1.bj=B.bj:=by grind [jF]
theorem aAV B r:(gg B r).1.st=B.st/\(gg B r).1.me=B.me/\(gg B r).1.par=B.par/\(gg B r).1.bj=B.bj:=by grind [gg]
section
variable {B B':cJ}{k j:Nat}{par bj:List Int}{O:cT}{n:Nat}{x:zx}{m:Int}
theorem DX.call{c lay}(C:ic (jF B c lay).1)(y:mD B k):DX B (jF B c lay).1 (k+1):=by obtain⟨z,j,A,t⟩:=aAU B c lay;exact⟨C,y.call c lay,by rw[z],λh=>⟨j.trans h.1,A.trans h.2.1,t.trans h.2.2⟩⟩
theorem DX.keep{r}(C:ic (gg B r).1)(y:mD B k):DX B (gg B r).1 (k+1):=by obtain⟨z,j,A,t⟩:=aAV B r;exact⟨C,y.keep r,by rw[z],λh=>⟨j.trans h.1,A.trans h.2.1,t.trans h.2.2⟩⟩
theorem DX.work(t:ic B)(y:mD B k):DX B (iL B) (k+1):=by have j:=KK t.todq;exact⟨t.work,y.work t.todq,j.life,λh=>⟨j.me.trans h.1,j.par.trans h.2.1,j.bj.trans h.2.2⟩⟩
theorem DX.handle(y:ic B)(t:mD B k) j b(hk:k<=50000):DX B (jc B j b).1 (k+1) :=
 ⟨(Xo t.fit y j b (by have:=t.cA;omega)).1,t.handle y j b hk,(Xn t.inv j b).1.life,λh=>h.handle y.todq j b⟩
theorem Py.mono(h:Py par bj n x k)(hk:k<=j):Py par bj n x j :=
 ⟨λe=>(h.down e).imp λs h=>⟨h.1,by have:=h.2.1;omega,h.2.2⟩,λB e=>by obtain⟨y,t,A,C,z⟩:=h.up B e;exact⟨y,t,A.mono hk,by omega,z⟩⟩
theorem cU.mono(h:cU par bj O k)(hk:k<=j):cU par bj O j:=⟨h.iE,h.wj,h.LH,λn x e=>(h.eV n x e).mono hk,h.key,h.few,λl t=>cQ (h.gl l t) hk⟩
theorem cU.up(h:cU par bj O k)(t:eK O m=I B):ic B/\mD B k/\B.st.life<=k+1/\Dr m par bj B:=by obtain⟨n,rfl,-,x,j,y⟩:=Fj t;exact ((h.eV n x j).up B y).2
theorem cU.set(h:cU par bj O k) n(hk:k<=j)(z:Py par bj n x j):cU par bj (lf O n x) j:=by
 refine⟨⟨h.iE.tr,h.iE.hm,?_,h.iE.lc,h.iE.lg⟩,h.wj,h.LH,λi y e=>?_,h.key,h.few,λl t=>cQ (h.gl l t) hk⟩;show Z (O.eV.set _ x)=_;rw[List.length_set];exact h.iE.ln;unfold lf at e;simp only[Int.toNat_natCast,List.getElem?_set]at e;split at e
 .grind
 exact (h.eV i y e).mono hk
theorem cU.put(h:cU par bj O k)(A:eK O m=I B)(hk:k<=j)(t:DX B B' j):cU par bj (oB O m B') j:=by
 obtain⟨n,rfl,-,x,z,y⟩:=Fj A;have H:=(h.eV n x z).up B y;exact h.set n hk ⟨λe=>by simp at e,λC e=>by
  simp at e;subst e;exact⟨rfl,t.aFp,t.run,by have:=t.life;omega,t.me H.2.2.2.2⟩⟩
theorem cU.call{α}(h:cU par bj O k) c z(f:cJ->cJ×α×Int)(t:∀B,ic B->mD B k->DX B (f B).1 (k+1)):cU par bj (pQ O c z f).1 (k+1):=by
 unfold pQ;split
 .split;exact h.mono (aH k);next B hu =>
  have j:=h.up hu;exact h.put hu (aH k) (t B j.1 j.2.1)
 exact h.mono (aH k)
theorem cU.begin(h:cU par bj O k)(hk:k<=50000){c}(j:dA c):cU par bj (lQ O c).1 (k+1) :=
 h.call c _ _ λB t hr=>.call (t.begin aaA j) hr
theorem cU.sub(h:cU par bj O k)(hk:k<=50000){c}(z:dA c){s}(y:s<18446744073709551616){f}(j:∀t∈f,jN t):cU par bj (oC O c s f).1 (k+1) :=
 h.call c _ _ λB A hr=>.call (A.ask aaA tQ z y j) hr
theorem cU.O4(h:cU par bj O k)(hk:k<=50000){c}(t:dA c){s}(j:s<18446744073709551616):cU par bj (uE O c s).1 (k+1) :=
 h.call c _ _ λB y hr=>.call (y.ask aaA tQ t j bu) hr
theorem cU.keep(h:cU par bj O k) c a f(j:∀B,ic B->ic (gg B (f B.bI)).1):cU par bj (eS O c a f).1 (k+1):=by unfold eS vK;split;exact h.mono (aH k);exact h.call c _ _ λB t y=>.keep (j B t) y
theorem zK{j k l}(h:nX j k=I l):(k,l)∈j:=by grind [nX,Option.map_eq_some_iff,List.mem_of_find?_eq_some]
theorem KX j k l:(jW j k l).map (·.1)=j.map (·.1):=by grind [jW,List.map_map,List.map_congr_left]
theorem KY{j k l}(h:∀q∈j,Z q.2<=8)(t:Z l<=8):∀q∈jW j k l,Z q.2<=8:=by grind [jW]
theorem ayT{j}(h:∀q∈j,Z q.2<=8) k b:(xw j k b).map (·.1)=j.map (·.1)/\∀q∈xw j k b,Z q.2<=8:=by
 unfold xw;split
 .split
  .next l e hl=>exact⟨KX _ _ _,KY h bL⟩
  grind
 grind
theorem ahk n:∀(l:List (Int×List UInt8)) {j:List kI},(∀q∈j,Z q.2<=8)->(l.foldl (λj m=>xw j (n,m.1) m.2) j).map (·.1)=j.map (·.1)/\∀q∈l.foldl (λj m=>xw j (n,m.1) m.2) j,Z q.2<=8
 | [],_,h=>⟨rfl,h⟩
 | x :: l,j,h=>by have t:=ayT h (n,x.1) x.2;have y:=ahk n l t.2;exact⟨y.1.trans t.1,y.2⟩
theorem cU.dV(h:cU par bj O k){j}(t:j.map (·.1)=O.dV.map (·.1))(y:∀q∈j,Z q.2<=8):cU par bj { O with dV:=j } k :=
 ⟨⟨h.iE.tr,h.iE.hm,h.iE.ln,h.iE.lc,h.iE.lg⟩,h.wj,h.LH,h.eV,t.trans h.key,y,h.gl⟩
theorem cU.tick(h:cU par bj O k) n:cU par bj (oZ O n).1 (k+1):=by
 unfold oZ;split
 .split;exact h.mono (aH k);next B hu =>
  have t:=h.up hu;have y:=h.put hu (aH k) (.work t.1 t.2.1);have j:=ahk n (xv (iL B)) h.few;exact y.dV j.1 j.2
 exact h.mono (aH k)
theorem cU.Fc(h:cU par bj O k)(hk:k<=50000) a b:cU par bj (nH O a b).1 (k+1):=by
 unfold nH;split;exact h.mono (aH k);exact h.mono (aH k);next m l hm =>
 have y:=h.few _ (zK hm);simp only[gH]at y;have j:cU par bj { O with dV:=jW O.dV (a,b) l } k:=h.dV (KX _ _ _) (KY h.few aZ);have e:eK { O with dV:=jW O.dV (a,b) l } b=eK O b:=rfl;simp only[e];split;exact j.mono (aH k);next B hu =>
 have t:=h.up hu;exact j.put hu (aH k) (.handle t.1 t.2.1 a m hk)
theorem cU.drain a b:∀(j:Nat) {O:cT} {k:Nat},cU par bj O k->k+j<=50000->cU par bj (Fh a b j O) (k+j)
 | 0,_,_,h,_=>h
 | j+1,_,k,h,hk=>by have:=cU.drain a b j (h.Fc aZ a b) aZ;rw[show k+(j+1)=k+1+j by omega];exact this
theorem cU.long(h:cU par bj O k) a b:pR O a b<=8:=by
 unfold pR;cases e:nX O.dV (a,b)with
 | none=>simp
 | some l=>exact h.few _ (zK e)
theorem cU.TN n:∀(l:List Nat) {O:cT} {k:Nat},cU par bj O k->k+8*Z l<=50000->cU par bj (l.foldl (λO (t:Nat)=>if t=n then O else Fh n t (pR O n t) O) O) (k+8*Z l)
 | [],_,_,h,_=>h
 | t :: l,O,k,h,hk=>by simp only[gH,List.foldl_cons]at hk|-;rw[show k+8*(Z l+1)=k+8+8*Z l by omega];refine cU.TN n l ?_ aZ;split;exact h.mono aZ;have:=h.long n t;exact (h.drain n t _ aZ).mono aZ
theorem cU.turn(h:cU par bj O k)(y:Z par<=6)(hk:k+49<=50000) n:cU par bj (xA O n) (k+49):=by have j:=h.tick n;have e:=h.wj;unfold xA;split;have t:=cU.TN n (List.range (Z O.par)) j bL;exact t.mono bL;exact h.mono aZ
theorem cU.turns(j:Z par<=6):∀(l:List Nat) {O:cT} {k:Nat},cU par bj O k->k+49*Z l<=50000->cU par bj (l.foldl xA O) (k+49*Z l)
 | [],_,_,h,_=>h
 | t :: l,O,k,h,hk=>by simp only[gH,List.foldl_cons]at hk|-;rw[show k+49*(Z l+1)=k+49+49*Z l by omega];exact cU.turns j l (h.turn j aZ t) aZ
theorem cU.round(h:cU par bj O k)(j:Z par<=6)(hk:k+588<=50000):cU par bj (zP O) (k+588):=by have e:=h.wj;have t:=cU.turns j ((List.range (Z O.par)).reverse++List.range (Z O.par)) h bL;exact t.mono bL
theorem cU.Ln(h:cU par bj O k) n:cU par bj (xi O n).1 k:=by
 unfold xi;split
 .split;exact h;next B hu =>
  obtain⟨t,j,y,z⟩:=h.up hu;obtain⟨i,rfl,-⟩:=Fj hu;exact h.set i (bP k) ⟨λ_=>⟨B.st,t.dk,y,j.inv.ab,j.inv.bF⟩,λC e=>bL⟩
 exact h
theorem mD.open_{me p q d s}(j:∀a∈s.ab,dM s.bq a=az)(t:Z s.bF<=6):mD (xq me p q d (eN s)) k:=⟨⟨j,t⟩,⟨zJ,zJ,zJ,zJ⟩,zJ,zJ⟩
theorem cU.down(h:cU par bj O k)(t:mi O m=aA)(j:eK O m=U):∃n:Nat,m=(n:Int)/\n<Z par/\∃d s,O.eV[n]?=I ⟨U,d⟩/\jr d s/\s.life<=k+1/\(∀a∈s.ab,dM s.bq a=az)/\Z s.bF<=6:=by unfold eK at j;rw[bV t]at j;unfold mi iW at t;simp only[fI,decide_eq_true_eq]at t;obtain⟨n,rfl⟩:=Int.eq_ofNat_of_zero_le t.1;have y:n<Z O.eV:=aaB;rw[Int.toNat_natCast,aE y]at j;have z:=(h.eV n _ (aE y)).down j;obtain⟨s,A⟩:=z;refine⟨n,rfl,by rw[<- h.wj];omega,O.eV[n].dk,s,?_,A⟩;rw[aE y];exact congrArg I (by cases hx:O.eV[n];rw[hx]at j;simp at j;simp[j])
theorem cU.OH(h:cU par bj O k) n(hk:k<=50000):cU par bj (xb O n).1 (k+1):=by
 unfold xb;split
 .next hi =>
  split;exact h.mono (aH k);next hu =>
  have A:eK O n=none:=GA;obtain⟨i,rfl,B,d,s,y,j,H,t,z⟩:=h.down hi A;unfold s5;simp only[Int.toNat_natCast,y,Option.map_some,Option.getD_some,DQ j];split
  .next hr =>
   rw[h.wj,h.LH];refine h.set i (aH k) ⟨λe=>by simp at e,λC e=>?_⟩;simp at e;subst e;refine⟨rfl,dq.open_ (h.wj▸h.iE.tr) ?_ (h.wj▸h.LH▸h.iE.hm) (j.life hr),mD.open_ t z,?_,rfl,rfl,rfl⟩;unfold iW;simp;omega;show (s.life+1)%18446744073709551616<=_;omega
  exact h.mono (aH k)
 exact h.mono (aH k)
theorem cU.Pz(h:cU par bj O k) c:cU par bj (jU O c).1 (k+1):=by
 have hm:=h.mono (aH k);unfold jU;split;split;exact hm;dsimp only;split;refine⟨⟨h.iE.tr,h.iE.hm,h.iE.ln,?_,?_⟩,h.wj,h.LH,hm.eV,h.key,h.few,λl j=>?_⟩;simp[h.iE.lc];dsimp only;split;exact h.iE.lg;simp[h.iE.lg];dsimp only at j;split at j;exact hm.gl l j;obtain⟨i,t,rfl⟩:=List.getElem_of_mem j;rw[List.getElem_modify];have:=h.gl _ (dJ (show i<Z O.got by grind));split
 .grind
 omega;exact hm;exact hm
theorem aw2 p:∀q∈I3 p,Z q.2<=8:=by grind [I3]
theorem cU.new(t:iH par=aA)(j:mU par bj=aA){room}(z:jM (fA (eN eZ))<=room)(y:room<=1048576):cU par bj (mC par bj room) 0:=by
 refine⟨⟨t,j,by simp[mC],by simp[mC],by simp[mC]⟩,rfl,rfl,λn x e=>?_,rfl,aw2 par,λl B=>by grind [mC]⟩;have A:n<Z par:=by grind [iH,mU,jM,fA,eN,eZ,mC]
 simp[mC,A]at e;subst e;refine⟨λe=>bL,λC e=>?_⟩;simp at e;subst e;exact⟨rfl,dq.open_ t (by grind [iW]) j ((jr.new y).life z),mD.open_ BU BU,by simp[xq,eN,eZ],rfl,rfl,rfl⟩
end
section
variable {α:Type}[DecidableEq α]{bC:List (α×aQ)}{k m:α}{v:aQ}
theorem XL(k:α):∀(r:List (α×aQ)) (i:Nat),i6 k r (i+1)=(i6 k r i).map λq=>(q.1+1,q.2)
 | [],_=>rfl
 | p :: r,i=>by simp only[i6];split;rfl;exact XL k r _
theorem EZ p:eX (p :: bC) k=if p.1=k then I p.2 else eX bC k:=by unfold eX;simp only[i6];split;rfl;rw[XL];cases i6 k bC 0 <;> rfl
theorem agq:∀ {bC:List (α×aQ)},eX bC k=U->k∉bC.map (·.1)
 | [],_=>bu
 | p :: r,h=>by
  rw[EZ]at h;split at h;cases h;next hp =>
  simp only[mN,List.mem_cons,not_or];exact⟨λe=>hp e.symm,agq h⟩
theorem ahl:∀ {bC:List (α×aQ)},k∉bC.map (·.1)->eX bC k=U
 | [],_=>rfl
 | p :: r,h=>by simp only[mN,List.mem_cons,not_or]at h;rw[EZ,bQ λe=>h.1 e.symm];exact ahl h.2
theorem ah3(h:eX bC k=U) v:uK bC k v=bC++[(k,v)]:=by
 unfold uK;unfold eX at h;cases e:i6 k bC 0 with
 | none=>rfl
 | some q=>rw[e]at h;cases h
theorem XM:∀ {bC:List (α×aQ)},eX (bC++[(k,v)]) m=if (eX bC m).isSome then eX bC m else if k=m then I v else U
 | []=>EZ _
 | p :: r=>by rw[cC,EZ,EZ,XM];by_cases j:p.1=m <;> simp[j]
theorem ayU p:Fu (p :: bC) k=if p.1=k then bC else p :: Fu bC k:=by grind [Fu,i6,XL]
theorem ahm k:∀ {bC:List (α×aQ)},(bC.map (·.1)).Nodup->eX (Fu bC k) k=U/\(∀m,m≠k->eX (Fu bC k) m=eX bC m)/\((Fu bC k).map (·.1)).Sublist (bC.map (·.1))
 | [],_=>⟨rfl,λ_ _=>rfl,.slnil⟩
 | p :: r,h=>by simp only[mN,List.nodup_cons]at h;obtain⟨t,y,z⟩:=ahm k h.2;rw[ayU];by_cases j:p.1=k;subst j;rw[bV rfl];exact⟨ahl h.1,λm hm=>by rw[EZ,bQ λe=>hm e.symm],List.sublist_cons_self _ _⟩;rw[bQ j];exact⟨by rw[EZ,bQ j,t],λm hm=>by rw[EZ,EZ,y m hm],z.cons_cons _⟩
end
section
variable {S:Nat->Prop}{W W2:aP}{H:nY}{own:Nat->Nat}{O:cT}{par bj:List Int}{k:Nat}
theorem cS.Lu(h:cS H own O W S){n gd}(y:H.ds[n]?=I gd):∃b t c,H.vd=F (I ⟨b,t,U⟩) (Z H.ds) c/\n<Z H.ds/\∀j,bf (λk=>own k≠0) W j->j.cell? ⟨b,t+n,U⟩=I (aj (I ⟨gd,0,U⟩)):=by
 obtain⟨Q,N⟩:=aF.1 y;have key:∀j,bf (λk=>own k≠0) W j->∃b t c,H.vd=F (I ⟨b,t,U⟩) (Z H.ds) c/\j.cell? ⟨b,t+n,U⟩=I (aj (I ⟨gd,0,U⟩)):=λj u=>by obtain⟨A,c,e,z,-⟩:=(h.fx j u).2.2;obtain⟨b,t,M,rfl,-,B,C,-⟩:=fE z n bL bG;obtain⟨rfl,-⟩:=B j (K.rf j);have:=C j (K.rf j);simp only[show BG.size=1 from rfl,Nat.mul_one]at this;grind
 obtain⟨b,t,c,e,-⟩:=key W (bf.rf _ _);grind
theorem ayV O n x y:lf (lf O n x) n y=lf O n y:=by simp[lf]
theorem atq(h:cS H own O W eJ)(M:cU par bj O k) n keep(hk:dA keep) :aK aR 65 #[aj (I ⟨H.gw,0,U⟩),G J n,G J keep] W λe w'=>e=ak (G J (xi O n).2)/\eW H own (xi O n).1 W w':=by
 have C1:=aY (Nw h p2 n);have C2:=aY (RO h p2 pB M.iE n);have HR:Hid (xi O n=if mi O n then (match eK O n with|none=>(O,(210:Int))|some B=>(lf O n ⟨U,B.dk⟩,0))else (O,1)):=aY rfl;have HN:=aY (h.now (K.rf W));generalize xi O n=R at *;cases hi:mi O n;rw[hi]at C1 HR;exact Tp;rw[hi]at C1 HR;cases hu:eK O n with
 | none => exact amB
 | some B =>
  rw[hu]at HR C2;obtain⟨i,rfl,hlt,x,hx1,hx2⟩:=Fj hu;obtain⟨gd,g,N,e2,hL⟩:=h.up (pB i) M.iE.ln hu;have X:i<Z O.eV:=bL;obtain⟨t,hdel,pg,hg1⟩:=azM (D3 (P:=aR) (kt:=3) underlying3) underlying100 (h.im p2).map (i:Int) 0 #[100,3] rfl;obtain⟨Y,iB,hd3⟩:=ahm (i:Int) (h.im p2).kn;have y:bf (λk=>k=H.gb) W t:=bf.gy hg1 λk e=>bL
  have ogb:=(h.im p2).own.2.1;have T:=hL.dk.to y (Z':=λk=>own k≠2*i+4/\k<D (L t)) (λk e=>⟨by rw[e,ogb];omega,e▸(h.im p2).map.lt⟩) λk hk=>by omega
  have A:cS { H with bC:=Fu H.bC (i:Int) } own (lf O i ⟨U,B.dk⟩) t eJ :=
   (h.less λ_ h=>h.1).map p2 X M.iE.ln pg ((h.im p2).kn.sublist hd3) iB y ⟨gd,N,λB e=>uC,λ_=>⟨Y,T⟩⟩
  obtain⟨b,off,c,S,hnl,V⟩:=cS.Lu A (n:=i) (gd:=gd) N;have q:=(h.im p2).blk.cell;have q1:=(A.im p2).blk.cell;have V:=V t (bf.rf _ _);simp only at S hnl;have:(i:Int)<Z H.ds:=aZ;rw[S]at q q1;simp only[encI]at hdel;have C3:=aY (aDi T keep hk);have HP:=aY λz (C:uB _ gd B.dk z) j=>A.ao1 (n:=i) (O:=lf O i ⟨U,B.dk⟩) (by show i<Z (O.eV.set _ _);rw[List.length_set];exact X) N Y C j
  go_in;go_wp2_with fail
  apply bW C1.aX;rintro w' rfl;go_wp2_with fail
  apply bW C2.aX;rintro w' rfl;go_wp2_with fail
  apply bW C3.aX;rintro z⟨C,j⟩;have Q:=HP.aX z C j;rw[ayV]at Q;have:=y.size;have HF:=aY (show eW H own (lf O i ⟨U,B.dk⟩) w' z from ⟨_,_,Q,rfl,(y.more λk e=>bL).ir j λk hk e=>aZ,λk hk=>I1⟩);exact IY
end
theorem aAW{t gd W d s}(h:uB t gd d W)(N:jr d s)(T:s.life+1<18446744073709551616) p bj me A C(S:Fx (λk=>¬t k) (λW=>bD eH p A W) W)(Q:Fx (λk=>¬t k) (λW=>bD eH bj C W) W)(R:iH p=aA)(hm:iW p me=aA)(V:mU p bj=aA)(X:¬jM (fA (eN s))<=d.room) :aK aR 85 #[G J me,A,C,aj (I ⟨gd,0,U⟩)] W λe y=>e=ak (au #[aj U,G J 90])/\uB t gd d y/\bf (λk=>¬t k) W y:=by
 obtain⟨vh,O,hz⟩:=h;have M:∀k,nE gd vh k->¬t k:=λk j H=>(hz k H).1 j
 refine (afw gd vh d s p bj me A C W O N N.abT T (S.less M) (Q.less M) R hm V).mono ?_;intro e y B;unfold GK at B;rw[bQ X]at B;obtain⟨fN,e1,Y,z⟩:=B;exact⟨e1,⟨fN,Y,λk j=>⟨λhx=>(z.new k hx).elim (hz k j).1 λh=>bL,cZ (hz k j).2 z.up.size⟩⟩,z.up.more λk j H=>(hz k H).1 j⟩
theorem ayW{O}{i:Nat}{x}(h:O.eV[i]?=I x):lf O i x=O:=by obtain⟨j,rfl⟩:=aF.1 h;simp[lf]
def Js(H:nY)(own:Nat->Nat)(O:cT)(W:aP)(i gd:Nat)(B:cJ)(d:rP)(R:cT×Int)(p:Option Addr)(j:Int)(W':aP):Prop :=
 bf (λk=>¬(own k≠2*i+4/\k<D (L W))) W W'/\(j=0/\(∃g,p=I ⟨g,0,U⟩/\fB (λk=>own k≠0/\own k≠2*i+4) (λk=>own k≠2*i+4/\k<D (L W)) g gd B W')/\R=(oB O i B,0)\/
  (j==0)=az/\p=U/\uB (λk=>own k≠2*i+4/\k<D (L W)) gd d W'/\R=(O,j))
def zU(O:cT)(n:Int):cT×Int:=if mU O.par O.bj then s5 O n else (O,1)
def LI:aQ->aQ
 | au a=>a.getD 0 undef
 | _=>undef
def LJ:aQ->aQ
 | au a=>a.getD 1 undef
 | _=>undef
section
variable {S:Nat->Prop}{W W':aP}{H:nY}{own:Nat->Nat}{O:cT}{par bj:List Int}{k:Nat}
theorem cS.opn(h:cS H own O W S)(hS:∀n,S (2*n+4))(ht:iH O.par=aA)(lu:Z O.eV=Z O.par)(hhn:Z O.bj<=1000000){i:Nat}{d s}(C:O.eV[i]?=I ⟨U,d⟩)(Q:jr d s)(Y:s.life+1<18446744073709551616) :∃gd B,H.ds[i]?=I gd/\eX H.bC (i:Int)=U/\∀t,K W t->aK aR 85 #[G J i,H.vp,H.vh,aj (I ⟨gd,0,U⟩)] t λe y=>∃p T,e=ak (au #[aj p,G J T])/\Js H own O W i gd B d (zU O i) p T y:=by
 obtain⟨gd,hd,-,uA⟩:=h.brk i _ (hS i) C;obtain⟨hlk,M⟩:=uA rfl;have:=(aF.1 C).1;refine⟨gd,xq i O.par O.bj ⟨fA (eN s),d.room⟩ (eN s),hd,hlk,λt k1=>?_⟩;have z:s5 O i=if jM (fA (eN s))<=d.room then (oB O i (xq i O.par O.bj ⟨fA (eN s),d.room⟩ (eN s)),0)else (O,90):=by grind [s5,Int.toNat_natCast,DQ]
 have hM:∀k,k<D (L W)->¬(own k≠2*i+4/\k<D (L W))->own k≠0:=λk N e=>aZ
 have f:=(h.fx.to (bf.rf (λ_=>False) W) (λ_ h=>h.elim) hM).k k1;have hm:iW O.par (i:Int)=true:=by unfold iW;simp;omega
 have R:=bf.cz k1 λk=>¬(own k≠2*i+4/\k<D (L W))
 by_cases j:mU O.par O.bj=aA
 case neg =>
  have j:mU O.par O.bj=false:=by simpa using j
  have C:zU O i=(O,1):=by unfold zU;rw[j];rfl
  have V:=f t (bf.rf _ _);refine (aAs O.par O.bj i H.vp H.vh _ t V.1 V.2.1 Zk hhn (aJ ⟨gd,rfl⟩) (aJ (aJ (aJ j)))).mono ?_;rintro e y⟨rfl,k2⟩;rw[C,ht];exact⟨U,1,rfl,bf.cz (k1.tr k2) _,aJ ⟨rfl,rfl,M.st (k1.tr k2),rfl⟩⟩
 have hX:zU O i=s5 O i:=by unfold zU;rw[j];rfl
 rw[hX];by_cases A:jM (fA (eN s))<=d.room;rw[bV A]at z;refine (aD0 (X:=λk=>own k≠0/\own k≠2*i+4) (M.st k1) Q Q.abT Y O.par O.bj i H.vp H.vh (λW u=>(f W u).1) (λW u=>(f W u).2.1) ht hm j A λk N=>⟨N.2,h.lo k N.1⟩).mono ?_;rintro e y⟨g,rfl,hL,u,-⟩;exact⟨_,_,rfl,R.tr u,aI ⟨rfl,⟨g,rfl,hL⟩,z⟩⟩;rw[bQ A]at z;refine (aAW (M.st k1) Q Y O.par O.bj i H.vp H.vh (λW u=>(f W u).1) (λW u=>(f W u).2.1) ht hm j A).mono ?_;rintro e y⟨rfl,hD',u⟩;exact⟨_,_,rfl,R.tr u,aJ ⟨rfl,rfl,hD',z⟩⟩
theorem Js.st{i gd B d R p y W1 z}(h:Js H own O W i gd B d R p y W1)(k:K W1 z):Js H own O W i gd B d R p y z :=
 ⟨h.1.tr (bf.cz k _),h.2.imp (λ⟨e,⟨g,j,C⟩,t⟩=>⟨e,⟨g,j,C.st k⟩,t⟩) λ⟨e,j,A,t⟩=>⟨e,j,A.st k,t⟩⟩
theorem cS.came(h:cS H own O W S)(y:S 2)(lu:Z O.eV=Z O.par){i gd g:Nat}{d B W1}(M:O.eV[i]?=I ⟨U,d⟩)(hd:H.ds[i]?=I gd)(C:eX H.bC (i:Int)=U)(u:bf (λk=>¬(own k≠2*i+4/\k<D (L W))) W W1)(hL:fB (λk=>own k≠0/\own k≠2*i+4) (λk=>own k≠2*i+4/\k<D (L W)) g gd B W1) :∃t,(Instr.mapUpdate 100 (.map (I H.gb)) (G J i) (aj (I ⟨g,0,U⟩))).run aR W1=.ok () t/\∃X z,cS X z (oB O i B) t S/\X.gw=H.gw/\bf (λk=>2<=own k) W t/\(∀k,k<D (L W)->z k=own k)/\∀k,z k=3->own k=3:=by
 have hi:=(aF.1 M).1;have V:bf (λk=>own k=2*i+4) W W1:=⟨u.os,u.tape,u.output,u.size,λk T y=>u.block k T λM=>M ⟨y,T⟩⟩;have R:=amw h aZ V λ_ h=>h
 have N:=h.im y;obtain⟨t,hrun,hm,hg⟩:=Gy (D3 (P:=aR) (kt:=3) underlying3) underlying100 (R.im ⟨y,aZ⟩).map (i:Int) (aj (I ⟨g,0,U⟩));rw[ah3 C]at hm;have A:bf (λk=>k=H.gb) W1 t:=bf.gy hg λk e=>Tq
 have ogb:=N.own.2.1;have hgb:=N.map.lt;refine⟨t,hrun,_,_,R.map (n:=i) y hi lu hm ?_ (λm hne=>?_) A ⟨gd,hd,λB' e=>?_,λe=>uC⟩,rfl,(V.more λk e=>aZ).ir (A.more (Y:=λk=>2<=own k) λk e=>by rw[e,ogb];exact bP 2) λk j e=>e,λk j=>I1,λk j=>by
  unfold lh at j;split at j;split at j <;> omega
  exact j⟩
 rw[List.map_append];exact List.nodup_append.2 ⟨N.kn,bu,λa ha b Q e=>agq C (by simp at Q;rw[<- Q,<- e];exact ha)⟩;rw[XM];cases eX H.bC m <;> simp
 intro e;exact absurd e.symm hne;injection e with e;subst e;refine⟨g,by rw[XM,C];simp,hL.to A (λk e=>by subst e;exact⟨⟨by omega,by omega⟩,by omega,hgb⟩) (λk j=>?_) λk j=>?_⟩;have:=Sj h.lo ⟨j.2,aJ j.1⟩;exact aI ⟨this.2.2▸j.1,this.1⟩;by_cases h9:k<D (L W1);have:=Sj h.lo ⟨j.1,aI h9⟩;exact aI ⟨this.1,this.2.1⟩;exact aJ ⟨aZ,j.2⟩
theorem aeZ(h:cS H own O W S)(Q:S 2)(hS:∀n,S (2*n+4))(ht:iH O.par=aA)(lu:Z O.eV=Z O.par)(hhn:Z O.bj<=1000000){i:Nat}{d s}(t:O.eV[i]?=I ⟨U,d⟩)(hG:jr d s)(hl:s.life+1<18446744073709551616) :aK aR 39 #[aj (I ⟨H.gw,0,U⟩),G J i] W λe w'=>e=ak (G J (zU O i).2)/\∃X A,cS X A (zU O i).1 w' S/\X.gw=H.gw/\bf (λk=>2<=own k) W w'/\(∀k,k<D (L W)->A k=own k)/\∀k,A k=3->own k=3:=by
 obtain⟨gd,B,hd,hlk,hC⟩:=h.opn hS ht lu hhn t hG hl;have HC:=aY hC;have HW:=aY λg W1 u hL=>h.came Q lu (g:=g) (W1:=W1) (B:=B) t hd hlk u hL
 have hi:=(aF.1 t).1;have HD:=aY λW1 u (hD:uB _ gd d W1)=>ayW t▸h.ao1 (W':=W1) hi hd hlk hD u
 have:=(h.im Q).own.1;have hb:=(h.im Q).blk;obtain⟨b,off,c,BH,hnl,Gm⟩:=h.Lu hd;have QR:(i:Int)<Z H.ds:=aZ;have LW:=λW1 (u:bf (λk=>¬(own k≠2*i+4/\k<D (L W))) W W1)=>Gm W1 ⟨u.os,u.tape,u.output,u.size,λk T Q=>u.block k T λt=>t ⟨aZ,T⟩⟩
 have hq:∀W1,bf (λk=>¬(own k≠2*i+4/\k<D (L W))) W W1->∀j,W1.cell? ⟨H.gw,j,U⟩=#[H.vp,H.vh,H.vn,H.vd,.map (I H.gb),H.vc,H.vg][j]?:=λW1 u=>(hb.cF u λe=>e ⟨aZ,hb.lt⟩).cell
 rw[BH]at hq;generalize zU O (i:Int)=R at *;have ML:=aY λp code W1 (h:Js H own O W i gd B d R p code W1)=>h.1
 obtain⟨Y,hY⟩:∃Y,Y=λk=>¬(own k≠2*i+4/\k<D (L W)):=⟨_,rfl⟩
 rw[<- hY]at hq LW ML;go_in;go_upto_region 1 with fail;have qs:=aB hq (aB LW QR);refine Rh 21 [16] (bf Y W) (λ_ _=>True) (λk vs W1=>if k=0 then K W W1 else ∃p code,vs=[au #[aj p,G J code]]/\Js H own O W i gd B d R p code W1) [([],[]),([],[]),([1],[(9,1)]),([2],[(10,2)]),([3],[(11,3)]),([],[]),([5],[(13,5)]),([6],[(14,6)]),([7],[(15,7)]),([],[]),([9],[(17,9)]),([10],[(18,10)]),([11],[(19,11)]),([],[]),([12,13],[(20,12),(21,13)]),([14],[(22,14)]),([0,4,8,15],[(8,0),(12,4),(16,8),(23,15)]),([16],[(24,16)]),([17],[(7,17)]),([17],[(7,17)]),([18],[(25,18)]),([0,1,2,3,4,5,6,7,8,9,10,11,12,13,14,15,16,17,18,19,20],[(26,19)])] 36 [] [(17,16,id),(18,17,LI),(19,17,LJ),(20,18,id)] (λ_ _ h k=>h.tr (bf.cz k _)) (λ_ _ _=>trivial) (λk vs W1 W2 h M=>by
  split at h
  .next h0=>rw[bV h0];exact h.tr M
  next h0 =>
  rw[bQ h0];obtain⟨p,code,e,N⟩:=h;exact⟨p,code,e,N.st M⟩) (bf.rf _ _) (λ_=>K.rf W) ?_
 iterate 16 refine bB.i ?_
 refine bB.kn (λv=>∃p code,v=au #[aj p,G J code]) ?_;refine bB.op (λv _=>∃p code,v=au #[aj p,G J code]) (λ_ _ _ h _=>h) (λV W1 M hp=>?_) ?_;exact aaC;refine bB.op (λv _=>∃p,v=aj p) (λ_ _ _ h _=>h) (λV W1 M hp=>?_) ?_;exact aaC;refine bB.op (λv _=>∃c:Int,v=G J c) (λ_ _ _ h _=>h) (λV W1 M hp=>?_) ?_;exact aaC;refine bB.op (λv _=>∃p,v=aj p) (λ_ _ _ h _=>h) (λV W1 M hp=>?_) ?_;simp only[dN,bZ,cC,dK,dL,bS]at hp;obtain⟨⟨p,e⟩,-⟩:=hp;exact aaD;refine⟨⟨⟨_,_,rfl,rfl,rfl,λV W1 hW hD hp=>?_⟩,trivial⟩,λk y=>(by simp at y),λz hz=>?_,λV W1 hW hD _ hE hA=>?_⟩
 .simp only[dN,bZ,cC,dK,dL,bS]at hp;obtain⟨e0,e4,e8,vG,-⟩:=hp;have hD:K W W1:=Ts;simp[bR,aC,e0,e4,e8,vG,lZ,aL,bT,go_sem];refine (HC.aX W1 hD).mono ?_;rintro e w'⟨p,code,rfl,N⟩;exact⟨_,rfl,ML.aX _ _ _ N,⟨p,code,rfl,N⟩,p,code,rfl⟩
 .simp at hz;rcases hz with rfl|rfl|rfl|rfl;all_goals refine⟨_,_,rfl,rfl,rfl,bu,λV W1 hW hp=>⟨W1,?_⟩⟩
  all_goals simp only[dN,bZ,cC,dK,dL,bS]at hp
  exact Tt
  .obtain⟨⟨p,code,e⟩,-⟩:=hp;simp[bR,aC,e,aL,bT,go_sem,LI]
  .obtain⟨⟨p,code,e⟩,-⟩:=hp;simp[bR,aC,e,aL,bT,go_sem,LJ]
  exact Tt
 simp only[bZ,cC,dF,bS,Nat.reduceAdd]at hA;obtain⟨e0,e1,e2,e3,e4,e5,e6,e7,e8,e9,iV,sP,JZ,Ga,Mp,vG,-⟩:=hA;simp only[dN,id]at hE;obtain⟨MF,We,h19,PD,-⟩:=hE;obtain⟨p,code,Mz,N⟩:∃p code,V 16=au #[aj p,G J code]/\Js H own O W i gd B d R p code W1:=Ts;rw[MF,Mz]at We h19;rw[We]at PD;rw[Mz]at MF;simp only[LI,LJ]at We h19 PD;have hA:=aB e0 (aB e1 (aB e2 (aB e3 (aB e4 (aB e5 (aB e6 (aB e7 (aB e8 (aB e9 (aB iV (aB sP (aB JZ (aB Ga (aB Mp (aB vG (aB Mz (aB MF (aB We (aB h19 PD)))))))))))))))))));have qs:=trivial;refine bN.p ?_;refine bN.h ?_;have:=hq W1 hW;obtain⟨C,⟨rfl,⟨g,rfl,hL⟩,rfl⟩|⟨hcz,rfl,Kl,rfl⟩⟩:=N;obtain⟨W2,hrun,hF⟩:=HW.aX g W1 C hL;have HF:=aY hF;exact OI;have HF:=aY (show ∃X A,cS X A O W1 S/\X.gw=H.gw/\bf (λk=>2<=own k) W W1/\(∀k,k<D (L W)->A k=own k)/\∀k,A k=3->own k=3 from ⟨H,_,HD.aX W1 C Kl,rfl,⟨C.os,C.tape,C.output,C.size,λk T Q=>C.block k T λt=>t ⟨aZ,T⟩⟩,λk y=>I1,λk y=>by
  unfold lh at y;split at y;split at y <;> omega
  exact y⟩)
 exact OI
theorem auh(h:cS H own O W S)(B:S 2)(C:∀n,S (2*n+4))(j:oA O){i:Nat}{d s}(M:O.eV[i]?=I ⟨U,d⟩)(N:jr d s)(A:s.life+1<18446744073709551616) :aK aR 39 #[aj (I ⟨H.gw,0,U⟩),G J i] W λe y=>e=ak (G J (s5 O i).2)/\∃z t,cS z t (s5 O i).1 y S/\z.gw=H.gw/\bf (λk=>2<=own k) W y/\(∀k,k<D (L W)->t k=own k)/\∀k,t k=3->own k=3:=by have:=aeZ h B C j.tr j.ln (by have:=NN j.hm;omega) M N A;rwa [show zU O i=s5 O i by unfold zU;rw[j.hm];rfl]at this
theorem asA(h:cS H own O W eJ)(t:cU par bj O k)(hk:k<=40000) n :aK aR 56 #[aj (I ⟨H.gw,0,U⟩),G J n] W λe w'=>e=ak (G J (xb O n).2)/\eW H own (xb O n).1 W w':=by
 have C1:=aY (Nw h p2 n);have C2:=aY (RO h p2 pB t.iE n);have HR:Hid (xb O n=if mi O n then (if (eK O n).isSome then (O,(210:Int))else s5 O n)else (O,1)):=aY rfl;have HN:=aY (h.now (K.rf W));have Q:Hid (mi O n=aA->eK O n=U->aK aR 39 #[aj (I ⟨H.gw,0,U⟩),G J n] W λe w'=>e=ak (G J (s5 O n).2)/\eW H own (s5 O n).1 W w'):=aY λj hu=>by obtain⟨i,rfl,-,d,s,S,C,V,-⟩:=t.down j hu;exact (auh h p2 pB t.iE S C aZ).mono λe w' ⟨z,M,A,a,b,c,d,_⟩=>⟨z,M,A,a,b,c,d⟩
 generalize xb O n=R at *;cases j:mi O n;rw[j]at C1 HR;exact Tp;rw[j]at C1 HR;cases hu:eK O n with
 | none =>
  have y:=aY (Q.aX j hu);rw[hu]at HR C2;generalize s5 O n=T at *;go_in;go_wp2_with fail
  apply bW C1.aX;rintro w' rfl;go_wp2_with fail
  apply bW C2.aX;rintro w' rfl;go_wp2_with fail
  apply bW y.aX;intro X N;have HF:=aY N;exact IY
 | some B => exact amB
end
