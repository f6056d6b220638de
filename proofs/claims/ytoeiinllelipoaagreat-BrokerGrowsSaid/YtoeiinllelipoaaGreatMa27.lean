/-
  The walks of norm.Implies and its parts (layer 7). Conditions: none.
-/
import Derived.Test.YtoeiinllelipoaaGreatMa26
import Derived.Test.YtoeiinllelipoaaGreatMz
set_option maxRecDepth 100000
set_option maxHeartbeats 16000000
set_option linter.unusedVariables false
set_option linter.unusedSimpArgs false
namespace Go.Proofs.YtoeiinllelipoaaGreat
open Go Go.RowKit _root_.Go.Proofs.Tryz
abbrev sP(a b:bc)(z:Int):Array Value:=#[.string a.1,.int .i64 a.2.1,.int .i64 a.2.2.1,.int .i64 a.2.2.2.1,.string a.2.2.2.2,.string b.1,.int .i64 b.2.1,.int .i64 b.2.2.1,.int .i64 b.2.2.2.1,.string b.2.2.2.2,.int .i64 z]
def CJ(op:Int):Nat:=if op=1 then 295 else if op=3 then 296 else if op=4 then 297 else if op=5 then 298 else if op=6 then 299 else if op=7 then 300 else 301
theorem aqx(op:Int)(w:World):Calls prog 288 #[.int .i64 op] w λe w'=>e=.returned (.func (.func (CJ op)) #[] #[])/\K w w':=by
 by_cases h1:op=1
 ·subst h1;exact ID
 by_cases h3:op=3
 ·subst h3;exact ID
 by_cases h4:op=4
 ·subst h4;exact ID
 by_cases h5:op=5
 ·subst h5;exact ID
 by_cases h6:op=6
 ·subst h6;exact ID
 by_cases h7:op=7
 ·subst h7;exact ID
 have y:(op==1)=false:=Ip;have j:(op==3)=false:=Pg;have s:(op==4)=false:=E5;have t:(op==5)=false:=KC;have u:(op==6)=false:=PQ;have A:(op==7)=false:=by simpa using h7
 have i:Hid (CJ op=301):=ae (by simp[CJ,h1,h3,h4,h5,h6,h7]);clear h1 h3 h4 h5 h6 h7;generalize CJ op=F at *;go_enter func288,ntmps288;go_wp2;go_ret;exact⟨by rw[i.aa];rfl,K.rf w⟩
theorem abG(op:Int)(w:World):Calls prog 287 #[.int .i64 op] w λe w'=>e=.returned (.bool (CI op))/\K w w':=by
 have HR:Hid (CI op=(decide (1<=op)&&decide (op<=8))):=ae rfl;generalize CI op=R at *;by_cases h1:1<=op
 ·have HR:Hid (R=decide (op<=8)):=ae aiI;go_enter func287,ntmps287;exact WO
 ·have HR:Hid (R=false):=ae aiI;go_enter func287,ntmps287;exact WO
theorem apB(a b:bc)(z:Int)(w:World):Calls prog 301 #[.agg (sP a b z)] w λe w'=>e=.returned (.bool false)/\K w w':=by have h:K w (w.alloc (.cells (sP a b z) 330)):=(K.rf w).al _;go_enter func301,ntmps301;go_wp2;go_ret;first|exact⟨rfl,h⟩|exact⟨rfl,K.rf w⟩
theorem aqy(a b:bc)(z:Int)(w:World):Calls prog 295 #[.agg (sP a b z)] w λe w'=>e=.returned (.bool (iV b a.2.2))/\K w w':=by
 have j:K w (w.alloc (.cells (sP a b z) 330)):=(K.rf w).al _;have i:=ae λW=>adB b a.2.2 W
 generalize iV b a.2.2=R at *;go_enter func295,ntmps295;go_wp2_with fail
 refine (i.aa _).mono ?_;rintro e u⟨rfl,s⟩;have t:=j.tr s;clear i;go_wp2;go_ret;exact⟨rfl,t⟩
theorem aqz(a b:bc)(z:Int)(w:World):Calls prog 296 #[.agg (sP a b z)] w λe w'=>e=.returned (.bool (decide ((b.2.1=3∨b.2.1=4∨b.2.1=2)/\z<=0)))/\K w w':=by
 have k1:K w (w.alloc (.cells (sP a b z) 330)):=(K.rf w).al _;obtain⟨y,i,u,t,B⟩:=b;have HR:Hid ((decide ((i=3∨i=4∨i=2)/\z<=0))=(decide ((i=3∨i=4∨i=2)/\z<=0))):=ae rfl;show Calls _ _ _ _ λe w'=>e=.returned (.bool (decide ((i=3∨i=4∨i=2)/\z<=0)))/\_
 clear HR;by_cases h3:i=3
 ·have HR:Hid ((decide ((i=3∨i=4∨i=2)/\z<=0))=decide (z<=0)):=ae (by subst h3;simp);generalize (decide ((i=3∨i=4∨i=2)/\z<=0))=R at *;subst h3;exact PR
 by_cases h4:i=4
 ·have HR:Hid ((decide ((i=3∨i=4∨i=2)/\z<=0))=decide (z<=0)):=ae (by subst h4;simp);generalize (decide ((i=3∨i=4∨i=2)/\z<=0))=R at *;subst h4;exact PR
 by_cases h2:i=2
 ·have HR:Hid ((decide ((i=3∨i=4∨i=2)/\z<=0))=decide (z<=0)):=ae La;generalize (decide ((i=3∨i=4∨i=2)/\z<=0))=R at *;subst h2;exact PR
 have HR:Hid ((decide ((i=3∨i=4∨i=2)/\z<=0))=false):=ae (by simp[h3,h4,h2]);generalize (decide ((i=3∨i=4∨i=2)/\z<=0))=R at *;have j:(i==3)=false:=Pg;have s:(i==4)=false:=E5;have A:(i==2)=false:=qN;clear h3 h4 h2;exact PR
theorem aoT(a b:bc)(z:Int)(w:World):Calls prog 297 #[.agg (sP a b z)] w λe w'=>e=.returned (.bool (if b.2.1=4 then decide (z<=0)else decide ((b.2.1=3∨b.2.1=2)/\z<0)))/\K w w':=by
 have k1:K w (w.alloc (.cells (sP a b z) 330)):=(K.rf w).al _;obtain⟨y,i,u,t,B⟩:=b;have HR:Hid ((if i=4 then decide (z<=0)else decide ((i=3∨i=2)/\z<0))=(if i=4 then decide (z<=0)else decide ((i=3∨i=2)/\z<0))):=ae rfl;show Calls _ _ _ _ λe w'=>e=.returned (.bool (if i=4 then decide (z<=0)else decide ((i=3∨i=2)/\z<0)))/\_
 clear HR;by_cases h4:i=4
 ·have HR:Hid ((if i=4 then decide (z<=0)else decide ((i=3∨i=2)/\z<0))=decide (z<=0)):=ae (by subst h4;simp);generalize (if i=4 then decide (z<=0)else decide ((i=3∨i=2)/\z<0))=R at *;subst h4;exact PS
 by_cases h3:i=3
 ·have HR:Hid ((if i=4 then decide (z<=0)else decide ((i=3∨i=2)/\z<0))=decide (z<0)):=ae (by subst h3;simp);generalize (if i=4 then decide (z<=0)else decide ((i=3∨i=2)/\z<0))=R at *;subst h3;exact PS
 by_cases h2:i=2
 ·have HR:Hid ((if i=4 then decide (z<=0)else decide ((i=3∨i=2)/\z<0))=decide (z<0)):=ae La;generalize (if i=4 then decide (z<=0)else decide ((i=3∨i=2)/\z<0))=R at *;subst h2;exact PS
 have HR:Hid ((if i=4 then decide (z<=0)else decide ((i=3∨i=2)/\z<0))=false):=ae (by simp[h4,h3,h2]);generalize (if i=4 then decide (z<=0)else decide ((i=3∨i=2)/\z<0))=R at *;have s:(i==4)=false:=E5;have j:(i==3)=false:=Pg;have A:(i==2)=false:=qN;clear h4 h3 h2;exact PS
theorem aqA(a b:bc)(z:Int)(w:World):Calls prog 298 #[.agg (sP a b z)] w λe w'=>e=.returned (.bool (decide ((b.2.1=5∨b.2.1=6∨b.2.1=2)/\0<=z)))/\K w w':=by
 have k1:K w (w.alloc (.cells (sP a b z) 330)):=(K.rf w).al _;obtain⟨y,i,u,s,B⟩:=b;have HR:Hid ((decide ((i=5∨i=6∨i=2)/\0<=z))=(decide ((i=5∨i=6∨i=2)/\0<=z))):=ae rfl;show Calls _ _ _ _ λe w'=>e=.returned (.bool (decide ((i=5∨i=6∨i=2)/\0<=z)))/\_
 clear HR;by_cases h5:i=5
 ·have HR:Hid ((decide ((i=5∨i=6∨i=2)/\0<=z))=decide (0<=z)):=ae WQ;generalize (decide ((i=5∨i=6∨i=2)/\0<=z))=R at *;subst h5;exact PT
 by_cases h6:i=6
 ·have HR:Hid ((decide ((i=5∨i=6∨i=2)/\0<=z))=decide (0<=z)):=ae WR;generalize (decide ((i=5∨i=6∨i=2)/\0<=z))=R at *;subst h6;exact PT
 by_cases h2:i=2
 ·have HR:Hid ((decide ((i=5∨i=6∨i=2)/\0<=z))=decide (0<=z)):=ae La;generalize (decide ((i=5∨i=6∨i=2)/\0<=z))=R at *;subst h2;exact PT
 have HR:Hid ((decide ((i=5∨i=6∨i=2)/\0<=z))=false):=ae (by simp[h5,h6,h2]);generalize (decide ((i=5∨i=6∨i=2)/\0<=z))=R at *;have j:(i==5)=false:=KC;have t:(i==6)=false:=PQ;have A:(i==2)=false:=qN;clear h5 h6 h2;exact PT
theorem aor(a b:bc)(z:Int)(w:World):Calls prog 299 #[.agg (sP a b z)] w λe w'=>e=.returned (.bool (if b.2.1=6 then decide (0<=z)else decide ((b.2.1=5∨b.2.1=2)/\0<z)))/\K w w':=by
 have k1:K w (w.alloc (.cells (sP a b z) 330)):=(K.rf w).al _;obtain⟨y,i,u,s,B⟩:=b;have HR:Hid ((if i=6 then decide (0<=z)else decide ((i=5∨i=2)/\0<z))=(if i=6 then decide (0<=z)else decide ((i=5∨i=2)/\0<z))):=ae rfl;show Calls _ _ _ _ λe w'=>e=.returned (.bool (if i=6 then decide (0<=z)else decide ((i=5∨i=2)/\0<z)))/\_
 clear HR;by_cases h6:i=6
 ·have HR:Hid ((if i=6 then decide (0<=z)else decide ((i=5∨i=2)/\0<z))=decide (0<=z)):=ae WR;generalize (if i=6 then decide (0<=z)else decide ((i=5∨i=2)/\0<z))=R at *;subst h6;exact PU
 by_cases h5:i=5
 ·have HR:Hid ((if i=6 then decide (0<=z)else decide ((i=5∨i=2)/\0<z))=decide (0<z)):=ae WQ;generalize (if i=6 then decide (0<=z)else decide ((i=5∨i=2)/\0<z))=R at *;subst h5;exact PU
 by_cases h2:i=2
 ·have HR:Hid ((if i=6 then decide (0<=z)else decide ((i=5∨i=2)/\0<z))=decide (0<z)):=ae La;generalize (if i=6 then decide (0<=z)else decide ((i=5∨i=2)/\0<z))=R at *;subst h2;exact PU
 have HR:Hid ((if i=6 then decide (0<=z)else decide ((i=5∨i=2)/\0<z))=false):=ae (by simp[h6,h5,h2]);generalize (if i=6 then decide (0<=z)else decide ((i=5∨i=2)/\0<z))=R at *;have t:(i==6)=false:=PQ;have j:(i==5)=false:=KC;have A:(i==2)=false:=qN;clear h6 h5 h2;exact PU
theorem aoU(a b:bc)(z:Int)(w:World):Calls prog 300 #[.agg (sP a b z)] w λe w'=>e=.returned (.bool (if b.2.1=7 then jR a.2.2 b.2.2 else if b.2.1=6 then decide (0<=z)else if b.2.1=5 then decide (0<z)else if b.2.1=2 then !jR b.2.2 a.2.2 else false))/\K w w':=by
 have k1:K w (w.alloc (.cells (sP a b z) 330)):=(K.rf w).al _;have C1:=ae λW=>Tq a.2.2 b.2.2 W
 have C2:=ae λW=>Tq b.2.2 a.2.2 W
 obtain⟨C,i,u,t,y⟩:=b;show Calls _ _ _ _ λe w'=>e=.returned (.bool (if i=7 then jR a.2.2 (u,t,y)else if i=6 then decide (0<=z)else if i=5 then decide (0<z)else if i=2 then !jR (u,t,y) a.2.2 else false))/\_
 simp only at C1 C2;generalize jR a.2.2 (u,t,y)=s at *;generalize jR (u,t,y) a.2.2=j at *;by_cases h7:i=7
 ·have HR:Hid ((if i=7 then s else if i=6 then decide (0<=z)else if i=5 then decide (0<z)else if i=2 then !j else false)=(s)):=ae (by subst h7;simp);generalize (if i=7 then s else if i=6 then decide (0<=z)else if i=5 then decide (0<z)else if i=2 then !j else false)=R at *;subst h7;go_enter func300,ntmps300;go_wp2_with fail
  refine (C1.aa _).mono ?_;exact aiJ
 by_cases h6:i=6
 ·have HR:Hid ((if i=7 then s else if i=6 then decide (0<=z)else if i=5 then decide (0<z)else if i=2 then !j else false)=(decide (0<=z))):=ae WR;generalize (if i=7 then s else if i=6 then decide (0<=z)else if i=5 then decide (0<z)else if i=2 then !j else false)=R at *;subst h6;exact WS
 by_cases h5:i=5
 ·have HR:Hid ((if i=7 then s else if i=6 then decide (0<=z)else if i=5 then decide (0<z)else if i=2 then !j else false)=(decide (0<z))):=ae WQ;generalize (if i=7 then s else if i=6 then decide (0<=z)else if i=5 then decide (0<z)else if i=2 then !j else false)=R at *;subst h5;exact WS
 by_cases h2:i=2
 ·have HR:Hid ((if i=7 then s else if i=6 then decide (0<=z)else if i=5 then decide (0<z)else if i=2 then !j else false)=(!j)):=ae La;generalize (if i=7 then s else if i=6 then decide (0<=z)else if i=5 then decide (0<z)else if i=2 then !j else false)=R at *;subst h2;go_enter func300,ntmps300;go_wp2_with fail
  refine (C2.aa _).mono ?_;exact aiJ
 have HR:Hid ((if i=7 then s else if i=6 then decide (0<=z)else if i=5 then decide (0<z)else if i=2 then !j else false)=false):=ae (by simp[h7,h6,h5,h2]);generalize (if i=7 then s else if i=6 then decide (0<=z)else if i=5 then decide (0<z)else if i=2 then !j else false)=R at *;have E:(i==7)=false:=by simpa using h7
 have B:(i==6)=false:=PQ;have A:(i==5)=false:=KC;have D:(i==2)=false:=qN;clear h7 h6 h5 h2 C1 C2;exact WS
theorem arY(a b:bc)(w:World):Calls prog (CJ a.2.1) #[.agg (sP a b (fB a.2.2 b.2.2))] w λe w'=>e=.returned (.bool (Ed a b))/\K w w':=by
 unfold CJ Ed;split
 ·exact aqy a b _ w
 split
 ·exact aqz a b _ w
 split
 ·exact aoT a b _ w
 split
 ·exact aqA a b _ w
 split
 ·exact aor a b _ w
 split
 ·exact aoU a b _ w
 ·exact apB a b _ w
theorem atJ(op:Int):∀h W,(callFunc (CJ op) h).run prog W=.ok (.enter (CJ op) h) W:=by
 intro h W
 unfold CJ
 repeat' split
 all_goals rfl
theorem aqB(x y:bc)(w:World)(d:Nat):(Op.equalIn (d+1+1+1) 81 (oN x) (oN y)).run prog w=.ok (decide (x=y)) w:=by obtain⟨a,b,c,d1,e⟩:=x;obtain⟨C,s,D,j,u⟩:=y;simp[go_sem,Hy];by_cases h:a=C <;> by_cases i:b=s <;> by_cases A:c=D <;> by_cases B:d1=j <;> by_cases t:e=u <;> simp[h,A,i,B,t]
theorem apC(x y:bc)(w:World):(binOp .eql 81 (oN x) (oN y)).run prog w=.ok (.bool (decide (x=y))) w:=by have h:(Op.equal 81 (oN x) (oN y)).run prog w=.ok (decide (x=y)) w:=aqB x y w 9997;exact ahJ
theorem aci{ops:Array Oper}{rest:List Oper}{o:Oper}{a:Act}{w:World}{Q:Exit->Act->World->Prop}(i:o.guard=none)(x y:Operand)(s:o.op=.binOp .eql 81 x y 81)(p q:bc)(j:a.eval x=oN p)(t:a.eval y=oN q)
 (h:wpList prog ops Q rest (a.put o.dst (.bool (decide (p=q)))) w):wpList prog ops Q (o :: rest) a w:=by
 refine wpList_plain i λK A=>?_
 have u:=apC p q w
 have hg:(eqGuard BinOp.eql 81 x y (oN p) (oN q)).run prog w=.ok () w:=by simp[eqGuard,go_sem]
 unfold Oper.wp execOp
 simp only[s,Sem.run_bind,Result.andThen_ok,j,t,hg,u,Sem.run_pure]
 exact A _ _ h
theorem aoV(a b:bc)(w:World):Calls prog 272 #[oN a,oN b] w λe w'=>e=.returned (.bool (pA a b))/\K w w':=by
 have B:Hid (pA a b=if a.1≠b.1∨CI a.2.1=false∨CI b.2.1=false then false else if a=b∨b.2.1=8 then true else if a.2.1=8∨a.2.2.1≠b.2.2.1 then false else Ed a b):=ae rfl
 have C1:=ae λW=>arY a b W
 have Z:=ae λW=>abw a.2.2 b.2.2 W
 generalize pA a b=R at *
 have t:K w ((w.alloc (.cells (dY a).toArray 81)).alloc (.cells (dY b).toArray 81)):=((K.rf w).al _).al _
 have hb:=(ai.new w 81 (dY a).toArray).alloc (.cells (dY b).toArray 81)
 have Q:=ai.new (w.alloc (.cells (dY a).toArray 81)) 81 (dY b).toArray
 have hz:(w.alloc (.cells (dY a).toArray 81)).heap.size=w.heap.size+1:=aj
 rw[hz]at Q
 clear hz
 go_enter func272,ntmps272
 go_upto_region 1 with (fail)
 generalize World.alloc (World.alloc w _) _=J at *
 have s:=hb.cells
 have j:=Q.cells
 generalize w.heap.size=M at *
 clear hb Q
 by_cases A:a.1=b.1
 rotate_left
 ·have HF:Hid (R=false):=ae (by rw[B.aa,if_pos (.inl A)]);have hs:(a.1.toList==b.1.toList)=false:=by rw[Kt];simpa using A
  have X:=s J (K.rf _);have Y:=j J (K.rf _);clear s j A;go_wp2;go_ret;exact⟨Bk,t⟩
 have hs:(a.1.toList==b.1.toList)=true:=by rw[Kt];simpa using A
 have X:=s J (K.rf _)
 have Y:=j J (K.rf _)
 have CK1:=ae (abG a.2.1 J)
 go_wp2_with fail
 refine CK1.aa.mono ?_
 rintro e w2⟨rfl,S⟩
 clear CK1 X Y
 cases eK:CI a.2.1
 ·have HF:Hid (R=false):=ae (by rw[B.aa,if_pos (.inr (.inl eK))]);have kF:=t.tr S;clear s j A B;go_wp2;exact DC
 have T:=ae (abG b.2.1 w2)
 go_wp2_with fail
 refine T.aa.mono ?_
 rintro e L⟨rfl,k3⟩
 have u:=S.tr k3
 clear T S k3
 cases hk2:CI b.2.1
 ·have HF:Hid (R=false):=ae (by rw[B.aa,if_pos (.inr (.inr hk2))]);have kF:=t.tr u;clear s j A B eK;go_wp2;exact DC
 have I:Hid (R=if a=b∨b.2.1=8 then true else if a.2.1=8∨a.2.2.1≠b.2.2.1 then false else Ed a b):=ae (by rw[B.aa,if_neg];simp[A,eK,hk2])
 clear B eK hk2 A hs
 go_upto_region 3 with (fail)
 have D:∀W,K L W->∀i,W.cell? ⟨M,i,none⟩=(dY a).toArray[i]?:=λW k=>s W (u.tr k)
 have E:∀W,K L W->∀i,W.cell? ⟨M+1,i,none⟩=(dY b).toArray[i]?:=λW k=>j W (u.tr k)
 have qa5:=D L (K.rf _)
 have qb5:=E L (K.rf _)
 by_cases h8:a=b
 ·have HF:Hid (R=true):=ae (by rw[I.aa,if_pos (.inl h8)]);have hd:decide (a=b)=true:=by simp[h8]
  have kF:=t.tr u;clear I h8 s j D E;exact PW
 have hd:decide (a=b)=false:=by simp[h8]
 by_cases h9:b.2.1=8
 ·have HF:Hid (R=true):=ae (by rw[I.aa,if_pos (.inr h9)]);have tA:(b.2.1==8)=true:=by simp[h9]
  have kF:=t.tr u;clear I h8 h9 s j D E;exact PW
 have tA:(b.2.1==8)=false:=by simp[h9]
 have G:Hid (R=if a.2.1=8∨a.2.2.1≠b.2.2.1 then false else Ed a b):=ae (by rw[I.aa,if_neg];simp[h8,h9])
 clear I h8 h9
 by_cases C:a.2.1=8
 ·have HF:Hid (R=false):=ae (by rw[G.aa,if_pos (.inl C)]);have g9:(a.2.1==8)=true:=by simp[C]
  have kF:=t.tr u;clear G C s j D E;exact PW
 have g9:(a.2.1==8)=false:=by simp[C]
 by_cases H:a.2.2.1=b.2.2.1
 rotate_left
 ·have HF:Hid (R=false):=ae (by rw[G.aa,if_pos (.inr H)]);have g8:(a.2.2.1 != b.2.2.1)=true:=by simpa using H
  have kF:=t.tr u;clear G C H s j D E;exact PW
 have g8:(a.2.2.1 != b.2.2.1)=false:=by simpa using H
 have HF:Hid (R=Ed a b):=ae (by rw[G.aa,if_neg];simp[C,H])
 clear G C H
 have U:=ae (aqx a.2.1 L)
 go_wp2_with (first|with_reducible refine aci rfl (.tmp 23) (.tmp 24) rfl a b rfl rfl ?_|fail)
 refine U.aa.mono ?_
 rintro e w4⟨rfl,k4⟩
 clear U qa5 qb5 hd tA g9 g8
 have oX:=t.tr (u.tr k4)
 go_upto_region 8 with (fail)
 have N:∀W,K w4 W->∀i,W.cell? ⟨M,i,none⟩=(dY a).toArray[i]?:=λW k=>D W (k4.tr k)
 have O:∀W,K w4 W->∀i,W.cell? ⟨M+1,i,none⟩=(dY b).toArray[i]?:=λW k=>E W (k4.tr k)
 clear s j D E
 refine eM 9 [([],[]),([],[]),([],[]),([],[]),([3],[(49,3)]),([],[]),([5],[(51,5)]),([4,6],[(50,4),(52,6)]),([1,2,7],[(47,1),(48,2),(53,7)]),([0,7,8],[(46,0),(54,8)]),([0,1,2,3,4,5,6,7,8,9],[(55,9)])] 56 rfl ak ak ak ak au ?_
 simp only[dR,dN,ew,dP]
 iterate 7 (apply aV.is;intro V W F y;(try simp only[aI,aJ,aM,aE,aF,ag]at y);simp[aL,aw,List.lookup,y,aS,execOp,ay,ag,aN,F,N,O,go_sem];rfl)
 refine aV.is (.int .i64 (fB a.2.2 b.2.2)) (λV W F y=>?_) ?_
 ·(try simp only[aI,aJ,aM,aE,aF,ag]at y)
  simp[aL,aw,List.lookup,y,aS,execOp,ay,ag,N,O,go_sem];refine (Z.aa W).mono ?_;exact sW
 (apply aV.is;intro V W F y;(try simp only[aI,aJ,aM,aE,aF,ag]at y);simp[aL,aw,List.lookup,y,aS,execOp,ay,ag,aN,F,N,O,go_sem];rfl)
 intro V W F hA
 simp only[aJ,aM,eA,ag,Nat.reduceAdd]at hA
 obtain⟨e0,e1,e2,e3,e4,e5,e6,e7,e8,-⟩:=hA
 have sA:=oX.tr F
 refine bu.call _ _ rfl aws ?_
 refine (C1.aa W).mono ?_
 rintro e w9⟨rfl,k9⟩
 refine⟨_,rfl,?_⟩
 have kF:=sA.tr k9
 apply bu.pure
 rfl
 simp[aw,List.lookup,bj,execOp,ay,go_sem]
 rfl
 refine bu.nil ?_
 simp only[bF,Act.put,cO,cM,cL,Nat.reduceAdd,bj,Nat.reduceEqDiff,reduceIte]
 clear C1 Z N O e0 e1 e2 e3 e4 e5 e6 e7 e8 F
 go_wp2
 go_ret
 exact⟨Bk,kF⟩
def nT:cF (List bc) where
 size:=1
 rel l cs w:=∃v,cs=[v]/\eJ l v w
 len:=by rintro _ _ _⟨v,rfl,_⟩;rfl
 one:=by rintro _ _ _⟨v,rfl,A,c,rfl,_⟩ u i;simp at i;subst i;rfl
 st:=by rintro _ _ _ _⟨v,rfl,h⟩ k;exact⟨v,rfl,dB _ _ _ _ h k⟩
theorem axs:(prog.info? 36).map (λi=>(i.zero,i.size,i.bytes))=some (some (.slice none 0 0),1,24):=by kernel_rfl
theorem TFl:gJ prog 262 36 (.slice none 0 0) 1 24:=⟨underlying262,axs,rfl,au⟩
theorem aqC(l:List bc)(v:Value)(q:bc->Bool)(f:Nat)(cs:Array Value)(w:World)(h:eJ l v w)(Z:l.length<=1000000)(L:∀B W,(callFunc f B).run prog W=.ok (.enter f B) W)
 (D:∀W,K w W->∀x∈l,Calls prog f (#[oN x]++cs) W λe N=>e=.returned (.bool (q x))/\K W N) :
 Calls prog 270 #[v,.func (.func f) #[] cs] w λe w'=>e=.returned (.bool (l.any q))/\K w w':=by
 have kk:=K.rf w
 obtain⟨A,c,rfl,J⟩:=h
 have O:=ae J
 have M:=ae D
 clear D J
 go_enter func270,ntmps270
 go_wp2_with fail
 go_loopw [6,9] (fun _ i wr=>∃k:Nat,k<=l.length/\i=.int .i64 (k:Int)/\Hid ((l.take k).any q=false)/\K w wr) (fun _ i _=>l.length-(intOf i).toNat)
 case atStart=>exact⟨0,af,rfl,ae aj,kk⟩
 case round =>
  clear kk;obtain⟨k,hk,rfl,hall,kr⟩:=hrel;by_cases u:k<l.length
  ·have eF:(k:Int)<(l.length:Int):=af;obtain⟨b,s,rfl,j,I⟩:=O.aa.DW af;obtain⟨H,y,F,C,E⟩:=I k u;have S:=(kr.cell (p:=⟨b,s+k*5,none⟩) j).trans H;have d1:=(kr.cell (p:=⟨b,s+k*5+1,none⟩) j).trans y;have d2:=(kr.cell (p:=⟨b,s+k*5+2,none⟩) j).trans F;have d3:=(kr.cell (p:=⟨b,s+k*5+3,none⟩) j).trans C;have T:=(kr.cell (p:=⟨b,s+k*5+4,none⟩) j).trans E;have HB:=ae (xp q l k u);have JJ:=ae (xq q l (k+1));have hm:=bW u;clear H y F C E I;generalize l[k]=x at *;have t:K wr (wr.alloc (.cells (dY x).toArray 81)):=(K.rf wr).al _;have hx:=ai.new wr 81 (dY x).toArray;have G:=ae (M.aa _ (kr.tr t) x hm);go_upto_region 4 with (fail);have Q:=kr.tr t;generalize wr.alloc _=V at *;clear S d1 d2 d3 T hm t kr;have R:=hx.cell;have X:=L;clear L;go_wp2_with fail
   refine G.aa.mono ?_;rintro e Y⟨rfl,U⟩;have kW:=Q.tr U;clear R G hx;exact aiK
  ·exact aiL
theorem arZ(t u:bc)(g:Nat)(w:World)(hg:ai w g 81 (dY t).toArray) :
 Calls prog 271 #[oN u,.pointer (some ⟨g,0,none⟩)] w λe w'=>e=.returned (.bool (pA u t))/\K w w':=by
 have y:K w (w.alloc (.cells (dY u).toArray 81)):=(K.rf w).al _
 have i:=hg.below y hg.lt
 have s:=ai.new w 81 (dY u).toArray
 have j:=ae λW=>aoV u t W
 generalize pA u t=R at *
 clear hg
 go_enter func271,ntmps271
 go_upto_region 1 with (fail)
 generalize w.alloc _=C at *
 have q:=s.cell
 have B:=i.cell
 go_wp2_with fail
 refine (j.aa C).mono ?_
 rintro e E⟨rfl,A⟩
 have D:=y.tr A
 clear j q B s i
 go_wp2
 go_ret
 exact⟨rfl,D⟩
theorem abf(f g:List bc)(v u:Value)(w:World)(Y:eJ f v w)(M:eJ g u w)(S:f.length<=1000000)(hg:g.length<=1000000) :
 Calls prog 253 #[v,u] w λe w'=>e=.returned (.bool (nc f g))/\K w w':=by
 have E:Hid (nc f g=f.all λt=>g.any λu=>pA u t):=ae rfl
 generalize nc f g=R at *
 have kk:=K.rf w
 obtain⟨A,c,rfl,Q⟩:=Y
 have V:=ae Q
 have Z:=ae λW (k:K w W) q f cs S U=>aqC g u q f cs W (dB _ _ _ _ M k) hg S U
 obtain⟨D,d,rfl,-⟩:=M
 clear Q
 go_enter func253,ntmps253
 go_wp2_with fail
 go_loopw [6,9] (fun _ i wr=>∃k:Nat,k<=f.length/\i=.int .i64 (k:Int)/\Hid ((f.take k).all (fun t=>g.any fun u=>pA u t)=true)/\K w wr) (fun _ i _=>f.length-(intOf i).toNat)
 case atStart=>exact⟨0,af,rfl,ae aj,kk⟩
 case round =>
  clear kk;obtain⟨k,hk,rfl,hall,kr⟩:=hrel;by_cases y:k<f.length
  ·have eF:(k:Int)<(f.length:Int):=af;obtain⟨b,s,rfl,j,O⟩:=V.aa.DW af;obtain⟨N,B,I,C,G⟩:=O k y;have d0:=(kr.cell (p:=⟨b,s+k*5,none⟩) j).trans N;have d1:=(kr.cell (p:=⟨b,s+k*5+1,none⟩) j).trans B;have d2:=(kr.cell (p:=⟨b,s+k*5+2,none⟩) j).trans I;have d3:=(kr.cell (p:=⟨b,s+k*5+3,none⟩) j).trans C;have d4:=(kr.cell (p:=⟨b,s+k*5+4,none⟩) j).trans G;have HB:=ae (Df (λt=>g.any λu=>pA u t) f k y);have T:=ae (λ(h:(g.any λu=>pA u f[k])=false)=>show (f.all λt=>g.any λu=>pA u t)=false by
    rw[List.all_eq_false];exact⟨f[k],bW y,by rw[h];simp⟩)
   clear N B I C G O;generalize f[k]=x at *;have F:K wr (wr.alloc (.cells (dY x).toArray 81)):=(K.rf wr).al _;have hx:=ai.new wr 81 (dY x).toArray;go_upto_region 4 with (fail);have H:=kr.tr F;generalize wr.alloc _=X at *;generalize wr.heap.size=J at hx⊢;clear d0 d1 d2 d3 d4 F kr;have L:=ae (Z.aa X H (λu=>pA u x) 271 #[.pointer (some ⟨J,0,none⟩)] (λ_ _=>nz) λW k u _=>arZ x u J W (hx.below k hx.lt));clear hx;go_wp2_with fail
   refine L.aa.mono ?_;rintro e w2⟨rfl,k2⟩;have kW:=H.tr k2;clear L;cases hx:g.any λu=>pA u x
   ·have HE:Hid (R=false):=ae (by rw[E.aa,T.aa hx]);clear hx;exact V2
   ·have pF:Hid ((f.take (k+1)).all (λt=>g.any λu=>pA u t)=true):=ae PX;clear hx;exact Iu
  ·have eF:¬(k:Int)<(f.length:Int):=af;have HE:Hid (R=true):=ae (by
    have:=hall.aa;rw[eT af]at this;rw[E.aa];exact this)
   exact K0
theorem aqD(l:List (List bc))(v:Value)(q:List bc->Bool)(f:Nat)(cs:Array Value)(w:World)(h:ar nT l v w)(V:l.length<=1000000)(E:∀y W,(callFunc f y).run prog W=.ok (.enter f y) W)
 (B:∀W,K w W->∀x∈l,∀u,eJ x u W->Calls prog f (#[u]++cs) W λe L=>e=.returned (.bool (q x))/\K W L) :
 Calls prog 238 #[v,.func (.func f) #[] cs] w λe w'=>e=.returned (.bool (l.any q))/\K w w':=by
 have kk:=K.rf w
 obtain⟨A,c,rfl,O,-⟩:=h
 have J:=ae B
 clear B
 go_enter func238,ntmps238
 go_wp2_with fail
 go_loopw [6,9] (fun _ i wr=>∃k:Nat,k<=l.length/\i=.int .i64 (k:Int)/\Hid ((l.take k).any q=false)/\K w wr) (fun _ i _=>l.length-(intOf i).toNat)
 case atStart=>exact⟨0,af,rfl,ae aj,kk⟩
 case round =>
  clear kk;obtain⟨k,hk,rfl,hall,kr⟩:=hrel;by_cases j:k<l.length
  ·have eF:(k:Int)<(l.length:Int):=af;obtain⟨G,N,T,rfl,H,t,D,d⟩:=dM O k j au;have HB:=ae (xp q l k j);have JJ:=ae (xq q l (k+1));have hm:=bW j;generalize l[k]=x at *;obtain⟨R,rfl,s⟩:=t wr kr;obtain⟨F,M,rfl⟩:=cB s;have I:wr.cell? ⟨G,N+k,none⟩=some (.slice F x.length M):=by simpa [nT]using D wr kr
   have C:=ae (J.aa wr kr x hm _ s);clear H t D d hm s;have S:=E;clear E;go_wp2_with fail
   refine C.aa.mono ?_;rintro e U⟨rfl,Q⟩;have kW:=kr.tr Q;clear I C;exact aiK
  ·exact aiL
theorem ar0(f:List bc)(e:List bh)(v t:Value)(g:Nat)(w:World)(i:eJ f v w)(hg:ai w g 34 #[t])(j:ik e t w)(u:f.length<=1000000)(B:e.length<=1000000) :
 Calls prog 239 #[v,.pointer (some ⟨g,0,none⟩)] w λr w'=>r=.returned (.bool (lT f e))/\K w w':=by
 have s:=ae (aqe i u j B)
 obtain⟨C,D,rfl⟩:=vN j
 obtain⟨A,c,rfl⟩:=cB i
 generalize lT f e=R at *
 clear i j
 have q:=hg.cell
 go_enter func239,ntmps239
 go_wp2_with fail
 refine s.aa.mono ?_
 rintro r E⟨rfl,y⟩
 clear s q hg
 go_wp2
 go_ret
 exact⟨rfl,y⟩
theorem atK(l:List (List bc))(e:List bh)(v C:Value)(w:World)(s:ar nT l v w)(j:ik e C w)(M:l.length<=1000000)(B:∀f∈l,f.length<=1000000)(I:e.length<=1000000) :
 Calls prog 196 #[v,C] w λr w'=>r=.returned (.bool (ko l e))/\K w w':=by
 have HR:Hid (ko l e=l.any λf=>lT f e):=ae rfl
 have F:=ae j
 have G:=ae s
 have N:=ae B
 obtain⟨y,E,rfl⟩:=vN j
 obtain⟨A,c,rfl⟩:=az s
 have i:K w (w.alloc (.cells #[.slice y e.length E] 34)):=(K.rf w).al _
 have hb:=ai.new w 34 #[.slice y e.length E]
 generalize ko l e=R at *
 clear s j B
 go_enter func196,ntmps196
 go_upto_region 1 with (fail)
 generalize w.alloc _=H at *
 generalize w.heap.size=t at hb⊢
 have D:=ae (aqD l _ (λf=>lT f e) 239 #[.pointer (some ⟨t,0,none⟩)] H (aW G.aa i) M (λ_ _=>nz) λW k f O u L=>ar0 f e u _ t W L (hb.below k hb.lt) (mR _ _ _ _ F.aa (i.tr k)) (N.aa f O) I)
 go_wp2_with fail
 refine D.aa.mono ?_
 rintro r S⟨rfl,Q⟩
 have J:=i.tr Q
 clear D hb
 go_wp2
 go_ret
 exact⟨fo,J⟩
theorem Ue{α:Type}{S:cF α}{l:List α}{A:Option Addr}{c:Nat}{w:World}(h:ar S l (.slice A l.length c) w)(r:Nat)(D:r<=l.length):ar S (l.take r) (.slice A r c) w:=by
 obtain⟨A',H,e,⟨css,t,B⟩,G⟩:=h;injection e with e1 _ e3;subst e1 e3;have s:(l.take r).length=r:=aU;refine⟨A,c,by rw[s],⟨css.take r,t.take r,?_⟩,by rw[s];omega⟩;rw[s,S9 S.size css t.lens r];have E:=t.DX;refine⟨by rw[od,E];exact Nat.min_eq_left (Nat.mul_le_mul_right _ D),λy=>?_⟩;obtain⟨g,C,e,hg,F⟩:=B.2 (by rw[od]at y;omega);refine⟨g,C,e,hg,λj u i=>F j u ?_⟩;rw[List.getElem?_take]at i;split at i
 ·exact i
 ·cases i
theorem ac4{α:Type}{S:cF α}{l:List α}{A A':Option Addr}{c:Nat}{w:World}(h:ar S l (.slice A l.length c) w)(k:Nat)(hk:k<=l.length)(F:k<l.length->A'=A.map (·.add (k*S.size))):ar S (l.drop k) (.slice A' (l.length-k) (c-k)) w:=by
 obtain⟨J,I,e,⟨css,t,C⟩,H⟩:=h;injection e with e1 _ e3;subst e1 e3;have i:(l.drop k).length=l.length-k:=aj;refine⟨A',c-k,by rw[i],⟨css.drop k,t.drop k,?_⟩,by rw[i];omega⟩;rw[i,Ta S.size css t.lens k];have s:=t.DX;refine⟨by rw[List.length_drop,s,Nat.sub_mul],λy=>?_⟩;rw[List.length_drop,s]at y;have E:k<l.length:=by
  refine Decidable.byContradiction λhn=>?_
  have:k=l.length:=af;subst this;omega
 obtain⟨g,D,rfl,hg,G⟩:=C.2 (by rw[s];exact bB y (Nat.sub_le _ _));refine⟨g,D+k*S.size,by rw[F E];simp[Addr.add_lit],hg,λj u B=>?_⟩;rw[Nat.add_assoc];refine G _ u ?_;rw[List.getElem?_drop]at B;exact B
theorem avd(ab:List av):∀(l:List aq) (o:List av),o.length<=16->(l.foldl (pk ab) o).length<=16:=by
 intro l
 induction l with
 | nil=>intro o h;exact h
 | cons x l i =>
  intro o h;refine i _ ?_;unfold pk;split
  ·simp;omega
  ·exact h
theorem ar1(ab:List av)(asks:List aq)(F va:Value)(w:World)(hb:ar bI ab F w)(ha:ar aQ asks va w)(hlb:ab.length<=1000000)(JB:asks.length<=1000000) :
 Calls prog 132 #[F,va] w λe w'=>∃v',e=.returned v'/\aT (λk=>k<w.heap.size) w.heap.size 46 bI (tX ab asks) v' w'/\K w w':=by
 have CB:=ae λW (k:K w W) a=>EN ab a F W (aW hb k) hlb
 have HE:Hid (tX ab asks=asks.foldl (pk ab) []):=ae rfl
 have uq:=ae λj=>avd ab (asks.take j) [] aj
 obtain⟨Ab,cb,rfl⟩:=az hb
 obtain⟨A,c,rfl,hl,-⟩:=ha
 generalize tX ab asks=R at *
 have kk:=K.rf w
 have jt:=aT.nil (λk=>k<w.heap.size) w.heap.size 46 bI w
 clear hb
 go_enter func132,ntmps132
 go_wp2_with fail
 go_loopw [5,7,10] (fun o _ i W=>∃j:Nat,j<=asks.length/\i=.int .i64 (j:Int)/\aT (fun k=>k<w.heap.size) w.heap.size 46 bI ((asks.take j).foldl (pk ab) []) o W/\K w W) (fun _ _ i _=>asks.length-(intOf i).toNat)
 case atStart=>exact⟨0,af,rfl,jt,kk⟩
 case round =>
  clear jt kk;obtain⟨j,hj,rfl,B,kr⟩:=hrel;have hpl:=uq.aa j;by_cases V:j<asks.length
  ·have ba:(j:Int)<(asks.length:Int):=af;obtain⟨b1,X,cs1,rfl,dH,M,d0,d⟩:=dM hl j V au;have t:=ae (fold_succ (pk ab) asks [] j V);generalize asks[j]=x at *;generalize (asks.take j).foldl (pk ab) []=P at *;obtain⟨y,gD⟩:∃y,Hid (y=(asks.take (j+1)).foldl (pk ab) []):=⟨_,ae rfl⟩;replace t:Hid (y=pk ab P x):=ae (gD.aa.trans t.aa);obtain⟨vf,J,rfl,hf,U⟩:=M w (K.rf w);have q9:∀i,i<8->wr.cell? ⟨b1,X+j*8+i,none⟩=(aA x vf J)[i]?:=λi hi=>(d wr kr i hi).trans Array.getElem?_toList
   have q0:wr.cell? ⟨b1,X+j*8,none⟩=some (.int .i64 x.kind):=d0 wr kr;have D:=ai.new wr 102 (aA x vf J);have H:K wr (wr.alloc (.cells (aA x vf J) 102)):=(K.rf wr).al _;obtain⟨Af,cf,rfl⟩:=cB hf;obtain⟨Ae,ce,rfl⟩:=az U;obtain⟨Q,O,rfl⟩:=B.slice;clear d d0 hf U M dH;go_upto_region 5 with (fail);have G:=B.st H;have I:=kr.tr H;generalize wr.alloc _=w3 at *;clear q9 q0 B H kr;by_cases E:P.length<16;rotate_left
   ·have FP:¬(P.length:Int)<16:=af;have HP:Hid (y=P):=ae (by rw[t.aa];unfold pk;rw[if_neg (by omega)]);clear E;go_wp2;go_roundw
    case rel=>exact⟨j+1,af,bO,by rw[<- gD.aa,HP.aa];exact G,I⟩
    case measure=>simp[intOf];omega
   have FP:(P.length:Int)<16:=af;have q8:=D.cell;have T:=ae (CB.aa w3 I (ax x));go_wp2_with fail
   refine T.aa.mono ?_;rintro e w4⟨rfl,s⟩;have gB:=I.tr s;have cE:=G.st s;have L:=D.below s D.lt;clear G s q8 T;have q8:=L.cell;cases hb0:dx ab (ax x)
   ·have HP:Hid (y=P):=ae (by rw[t.aa];unfold pk;rw[if_neg (by simp[hb0])]);clear q8 hb0;exact K6
   have Z:=ae (EN P (ax x) _ w4 cE.ar af);go_wp2_with fail
   refine Z.aa.mono ?_;rintro e C⟨rfl,s⟩;have mq:=gB.tr s;have b9:=cE.st s;have di:=L.below s L.lt;clear cE s q8 Z;have q8:=di.cell;cases aO:dx P (ax x);rotate_left
   ·have HP:Hid (y=P):=ae (by rw[t.aa];unfold pk;rw[if_neg (by simp[aO])]);exact ahQ
   have HP:Hid (y=P++[ax x]):=ae (by rw[t.aa];unfold pk;rw[if_pos ⟨E,hb0,aO⟩]);clear hb0 aO t E;have hr:=fE.new (S:=bI) (e:=46) (x:=ax x) (v:=.agg (bZ (ax x))) (w:=C) (N:=λk=>k<w.heap.size∨(Value.slice Q P.length O).ownBlock=some k) (λW u=>rfl) 0 (fw _);have Y:K C (C.alloc (.cells (bZ (ax x)) 46)):=(K.rf C).al _;have fX:=b9.st Y;have oY:=mq.tr Y;have pI:w.heap.size<=(C.alloc (.cells (bZ (ax x)) 46)).heap.size:=oY.size;clear b9;go_wp2_with (at_builtin;refine jK rfl _ _ 32 rfl _ 3 24 uJ rfl rfl fX _ rfl (ax x) ?p1 ?p2 ?p3 ?_)
   case p1=>exact hr
   case p2=>omega
   case p3=>exact pI
   exact Wq
  ·have ba:¬(j:Int)<(asks.length:Int):=af;have HR:Hid (R=(asks.take j).foldl (pk ab) []):=ae Wr;generalize (asks.take j).foldl (pk ab) []=P at *;obtain⟨Q,O,rfl⟩:=B.slice;go_wp2;go_ret;exact⟨_,rfl,by rw[HR.aa];exact B,kr⟩
theorem ar2(l:List aq)(n:Nat)(v:Value)(w:World)(h:ar aQ l v w)(y:∀x∈l,eD x)(M:l.length<=1000000)(hn:n<18446744073709551616) :
 Calls prog 130 #[v,.int .u64 (n:Int)] w λe w'=>∃C,e=.returned C/\aT (λk=>k<w.heap.size) w.heap.size 102 aQ (y9 l n) C w'/\K w w':=by
 have i:Hid (y9 l n=(l.drop n).take 4):=ae rfl
 have j:=h
 obtain⟨A,c,rfl,u,J⟩:=h
 generalize y9 l n=R at *
 have kk:=K.rf w
 by_cases D:l.length<=n
 ·have H:Hid (R=[]):=ae (by rw[i.aa,List.drop_eq_nil_of_le D];rfl);have I:(l.length:Int)<=(n:Int):=af;have hO:=aT.nil (λk=>k<w.heap.size) w.heap.size 102 aQ w;clear j u D;go_enter func130,ntmps130;go_wp2;go_ret;exact⟨_,rfl,by rw[H.aa];exact hO,kk⟩
 have I:¬(l.length:Int)<=(n:Int):=af
 have L:(n:Int)<=(c:Int):=af
 have s:=ac4 j n af (A':=Option.map ((λx=>x) ∘ λx=>x.add (n*8)) A) (λ_=>rfl)
 have HS:Hid (∀x∈(l.drop n).take 4,eD x):=ae λx E=>y x (List.mem_of_mem_drop (lE E))
 have lh:((l.drop n).take 4).length<=1000000:=aU
 by_cases B:4<l.length-n
 ·have F:(4:Int)<((l.length-n:Nat):Int):=af;have H2:=ae (Ue (l:=l.drop n) (c:=c-n) (by rw[List.length_drop];exact s) 4 aU);rw[<- i.aa]at HS lh H2;clear j u y s i B;go_enter func130,ntmps130;go_wp2_with fail
  rw[show (min ((l.length-n:Nat):Int) 4).toNat=4 by omega]
  refine (aaX R _ w H2.aa HS.aa lh).mono ?_;rintro e w2⟨v2,rfl,hO,k2⟩;clear H2 HS lh;have HO:=ae hO;obtain⟨A2,c2,rfl⟩:=az hO.ar;clear hO;go_wp2;go_ret;exact⟨_,rfl,HO.aa,k2⟩
 ·have F:¬(4:Int)<((l.length-n:Nat):Int):=af;have t:R=l.drop n:=by rw[i.aa,eT (by simp;omega)]
  have H2:=ae s;rw[<- i.aa]at HS lh;rw[<- t]at H2;have G:R.length=l.length-n:=by rw[t];simp
  clear j u y s i B t G;go_enter func130,ntmps130;go_wp2_with fail
  rw[show (min ((l.length-n:Nat):Int) 4).toNat=l.length-n by omega]
  refine (aaX R _ w H2.aa HS.aa lh).mono ?_;rintro e w2⟨v2,rfl,hO,k2⟩;clear H2 HS lh;have HO:=ae hO;obtain⟨A2,c2,rfl⟩:=az hO.ar;clear hO;go_wp2;go_ret;exact⟨_,rfl,HO.aa,k2⟩
theorem atL{l o:List (List bc)}{j:Nat}(h:j<l.length):oo o (l.drop j)=if o.any (λs=>nc s l[j])||(l.drop (j+1)).any (λs=>nc s l[j])then oo o (l.drop (j+1))else oo (o++[l[j]]) (l.drop (j+1)):=by rw[List.drop_eq_getElem_cons h];rfl
theorem ac5(l:List bc):∀u∈l.flatMap dY,u.oneCell'=true:=by intro u h;obtain⟨t,-,h⟩:=List.mem_flatMap.1 h;simp at h;rcases h with rfl|rfl|rfl|rfl|rfl <;> rfl
theorem apE(l:List (List bc))(v:Value)(w:World)(h:ar nT l v w)(hlen:l.length<=500000)(hf:∀f∈l,f.length<=1000000) :
 Calls prog 237 #[v] w λe w'=>∃v',e=.returned v'/\aT (λk=>k<w.heap.size) w.heap.size 36 nT (si l) v' w'/\K w w':=by
 have L:Hid (si l=oo [] (l.drop 0)):=ae rfl
 have HF:=ae hf
 have HH:=ae h
 obtain⟨A,c,rfl,hl,hc⟩:=h
 generalize si l=R at *
 have kk:=K.rf w
 have jt:=aT.nil (λk=>k<w.heap.size) w.heap.size 36 nT w
 clear hf
 go_enter func237,ntmps237
 go_wp2
 go_step3
 go_wp2_with fail
 go_step3
 go_wp2_with fail
 go_loopw [3,4,5,7,9,12] (fun vo _ _ _ _ i W=>∃(j:Nat) (o:List (List bc)),j<=l.length/\i=.int .i64 (j:Int)/\o.length<=j/\(∀f∈o,f.length<=1000000)/\Hid (R=oo o (l.drop j))/\aT (fun k=>k<w.heap.size) w.heap.size 36 nT o vo W/\K w W) (fun _ _ _ _ _ i _=>l.length-(intOf i).toNat)
 case atStart=>exact⟨0,[],af,rfl,aj,aj,L,jt,kk⟩
 case round =>
  clear jt kk L;obtain⟨j,o,hj,rfl,hoj,Sn,L,M,kr⟩:=hrel;obtain⟨Ao,co,rfl⟩:=M.slice;by_cases hlt:j<l.length;rotate_left
  ·have ba:¬(j:Int)<(l.length:Int):=af;have B:Hid (R=o):=ae (by rw[L.aa,List.drop_eq_nil_of_le (by omega)];rfl);go_wp2;go_ret;exact⟨_,rfl,by rw[B.aa];exact M,kr⟩
  have ba:(j:Int)<(l.length:Int):=af;obtain⟨b1,off,cs1,rfl,dH,hr1,d0,-⟩:=dM hl j hlt au;have HS:=ae (atL (o:=o) hlt);rw[<- L.aa]at HS;have sq:=HF.aa _ (bW hlt);generalize l[j]=f at *;obtain⟨vf,rfl,GF⟩:=hr1 w (K.rf w);have d0:∀W,K w W->W.cell? ⟨b1,off+j,none⟩=some vf:=λW k=>by simpa [nT]using d0 W k
  have HV:=ae GF;obtain⟨Af,cf,rfl,hRf⟩:=GF;have HRf:=ae hRf;clear dH hr1 hRf L;have q1:=d0 wr kr;generalize wr=w1 at *;go_wp2_with fail
  go_loopw [7,19] (fun _ i W=>∃k:Nat,k<=o.length/\i=.int .i64 (k:Int)/\Hid ((o.take k).any (fun s=>nc s f)=false)/\K w1 W) (fun _ i _=>o.length-(intOf i).toNat)
  case atStart=>exact⟨0,af,rfl,ae aj,K.rf _⟩
  case round =>
   obtain⟨k,hk,rfl,hall,I⟩:=hrel;have cS:=kr.tr I;by_cases jl:k<o.length
   ·have eF:(k:Int)<(o.length:Int):=af;obtain⟨A9,c9,G,hlo,-⟩:=M.ar;injection G with G _ gX;subst G gX;obtain⟨b2,o2,Q9,rfl,wj,Z,d2,-⟩:=dM hlo k jl au;have HB:=ae (xp (λs=>nc s f) o k jl);have JJ:=ae (xq (λs=>nc s f) o (k+1));have Yr:=Sn _ (bW jl);generalize o[k]=g at *;obtain⟨Q,rfl,F⟩:=Z wr I;have q2:wr.cell? ⟨b2,o2+k,none⟩=some Q:=by simpa [nT]using d2 wr I
    have T:=ae (abf g f Q _ wr F (dB _ _ _ _ HV.aa cS) Yr sq);obtain⟨Ag,cg,rfl⟩:=cB F;have HO:=ae (M.st I);clear wj Z d2 F hlo;go_wp2_with fail
    refine T.aa.mono ?_;rintro e w2⟨rfl,k2⟩;have kW:=I.tr k2;clear q2 T;cases hx:nc g f
    ·have pF:Hid ((o.take (k+1)).any (λs=>nc s f)=false):=ae PX;clear hx;exact Iu
    ·have B:Hid (R=oo o (l.drop (j+1))):=ae (by rw[HS.aa,if_pos];rw[JJ.aa (by rw[HB.aa,hx];simp)];rfl);have E:=HO.aa.st k2;have kF:=kr.tr kW;clear hx M;go_wp2;go_roundw
     case rel=>exact⟨j+1,o,af,bO,af,Sn,B,E,kF⟩
     case measure=>simp[intOf];omega
   ·have eF:¬(k:Int)<(o.length:Int):=af;have HN:Hid (o.any (λs=>nc s f)=false):=ae (by
     have:=hall.aa;rw[eT af]at this;exact this)
    have E:=M.st I;clear hall;generalize wr=w4 at *;by_cases hj1:j+1<l.length
    ·have hcn:¬c=j+1:=af;have hdr:=ac4 HH.aa (j+1) af (A':=some ⟨b1,off+(j+1),none⟩) (λ_=>by simp[nT,Addr.add_lit]);obtain⟨A9,c9,G,hld,-⟩:=hdr;injection G with G gX rN;subst G rN;have hdl:(l.drop (j+1)).length=l.length-(j+1):=aj;have HFD:Hid (∀g∈l.drop (j+1),g.length<=1000000):=ae λg hg=>HF.aa g (List.mem_of_mem_drop hg)
     have HDL:=ae hdl;clear hdl gX;go_wp2_with fail
     go_loopw [9,32] (fun _ i W=>∃k:Nat,k<=l.length-(j+1)/\i=.int .i64 (k:Int)/\Hid (((l.drop (j+1)).take k).any (fun s=>nc s f)=false)/\K w4 W) (fun _ i _=>l.length-(j+1)-(intOf i).toNat)
     case atStart=>exact⟨0,af,rfl,ae aj,K.rf _⟩
     case round =>
      obtain⟨k,hk,rfl,hall,J⟩:=hrel;have t:=cS.tr J;by_cases azs:k<l.length-(j+1)
      ·have azt:(k:Int)<((l.length-(j+1):Nat):Int):=af;have QM:k<(l.drop (j+1)).length:=by rw[HDL.aa];exact azs
       obtain⟨b2,o2,Q9,e2,wj,Z,d2,-⟩:=dM hld k QM au;injection e2 with e2;injection e2 with e2 e3;subst e2 e3;have HB:=ae (xp (λs=>nc s f) (l.drop (j+1)) k QM);have JJ:=ae (xq (λs=>nc s f) (l.drop (j+1)) (k+1));have Yr:=HFD.aa _ (bW QM);generalize (l.drop (j+1))[k]=g at *;obtain⟨Q,rfl,F⟩:=Z wr t;have q2:wr.cell? ⟨b1,off+(j+1)+k,none⟩=some Q:=by simpa [nT]using d2 wr t
       have T:=ae (abf g f Q _ wr F (dB _ _ _ _ HV.aa t) Yr sq);obtain⟨Ag,cg,rfl⟩:=cB F;clear wj Z d2 F QM;go_wp2_with fail
       refine T.aa.mono ?_;rintro e w2⟨rfl,k2⟩;have kW:=J.tr k2;clear q2 T;cases hx:nc g f
       ·have pF:Hid (((l.drop (j+1)).take (k+1)).any (λs=>nc s f)=false):=ae PX;clear hx;exact Iu
       ·have B:Hid (R=oo o (l.drop (j+1))):=ae (by rw[HS.aa,if_pos];rw[JJ.aa (by rw[HB.aa,hx];simp)];simp);have C:=E.st kW;have kF:=cS.tr kW;clear hx E;go_wp2;go_roundw
        case rel=>exact⟨j+1,o,af,bO,af,Sn,B,C,kF⟩
        case measure=>simp[intOf];omega
      ·have azt:¬(k:Int)<((l.length-(j+1):Nat):Int):=af;have Sq:Hid ((l.drop (j+1)).any (λs=>nc s f)=false):=ae (by
        have:=hall.aa;rw[eT (by rw[HDL.aa];omega)]at this;exact this)
       clear hld;have B:Hid (R=oo (o++[f]) (l.drop (j+1))):=ae aiN;have CL:=ae (aba Af f.length cf (f.flatMap dY) wr ((HRf.aa.below t (aG _)).more t.size) (ac5 f) af);have C:=E.st J;clear E Sq;go_wp2_with fail
       refine CL.aa.mono ?_;rintro e y⟨H,rfl,D,k6⟩;have Y:eJ f H y:=sU D;have jH:Fx (λk=>k<wr.heap.size) (λW=>nT.rel f [H] W) y:=λW u=>⟨H,rfl,sU (eE D u λb hb hk=>by have:=(D.lt b hb).1;omega)⟩
       obtain⟨V,N,rfl⟩:=cB Y;have Yt:=t.tr k6;have O:=fE.new (S:=nT) (e:=36) (v:=.slice V f.length N) jH 0 (fw _);have nr:=t.size;have bN:=C.blk;have kA:K y (y.alloc (.cells #[.slice V f.length N] 36)):=(K.rf y).al _;have X:=C.st (k6.tr kA);have U:=Yt.tr kA;have Yu:=U.size;clear C D Y jH CL;go_wp2_with (at_builtin;refine jK rfl _ _ 262 rfl _ 1 24 TFl rfl rfl X _ rfl f ?p1 ?p2 ?p3 ?_)
       case p1=>exact O.less λk hk=>aiO
       case p2=>omega
       case p3=>exact Yu
       intro v9 w9 bG bJ dc bo;have tF:=U.trans bo;have Yv:∀g∈o++[f],g.length<=1000000:=λg hg=>by exact aiP
       clear O X bJ dc bo bN;go_wp2;go_roundw
       case rel=>exact⟨j+1,o++[f],af,bO,aU,Yv,B,bG,tF⟩
       case measure=>simp[intOf];omega
    ·have azu:l.length=j+1:=af;have Sq:Hid ((l.drop (j+1)).any (λs=>nc s f)=false):=ae (by rw[List.drop_eq_nil_of_le (by omega)];rfl);have hz0:l.length-(j+1)=0:=af;clear azu;go_wp2_with fail
     all_goals
      go_loopw [9,32] (fun _ i W=>i=.int .i64 0/\K w4 W) (fun _ _ _=>0)
     all_goals first|(exact⟨rfl,K.rf _⟩)|skip
     all_goals
      obtain⟨rfl,J⟩:=hrel
      have t:=cS.tr J
      have B:Hid (R=oo (o++[f]) (l.drop (j+1))):=ae aiN
      have CL:=ae (aba Af f.length cf (f.flatMap dY) wr ((HRf.aa.below t (aG _)).more t.size) (ac5 f) af)
      have C:=E.st J
      clear E Sq
      go_wp2_with fail
      refine CL.aa.mono ?_
      rintro e y⟨H,rfl,D,k6⟩
      have Y:eJ f H y:=sU D
      have jH:Fx (λk=>k<wr.heap.size) (λW=>nT.rel f [H] W) y:=λW u=>⟨H,rfl,sU (eE D u λb hb hk=>by have:=(D.lt b hb).1;omega)⟩
      obtain⟨V,N,rfl⟩:=cB Y
      have Yt:=t.tr k6
      have O:=fE.new (S:=nT) (e:=36) (v:=.slice V f.length N) jH 0 (fw _)
      have nr:=t.size
      have bN:=C.blk
      have kA:K y (y.alloc (.cells #[.slice V f.length N] 36)):=(K.rf y).al _
      have X:=C.st (k6.tr kA)
      have U:=Yt.tr kA
      have Yu:=U.size
      clear C D Y jH CL
      go_wp2_with (at_builtin;refine jK rfl _ _ 262 rfl _ 1 24 TFl rfl rfl X _ rfl f ?p1 ?p2 ?p3 ?_)
      case p1=>exact O.less λk hk=>aiO
      case p2=>omega
      case p3=>exact Yu
      intro v9 w9 bG bJ dc bo
      have tF:=U.trans bo
      have Yv:∀g∈o++[f],g.length<=1000000:=λg hg=>by exact aiP
      clear O X bJ dc bo bN
      go_wp2
      try rw[<- h]
      go_roundw
      case rel=>exact⟨j+1,o++[f],af,bO,aU,Yv,B,bG,tF⟩
      case measure=>simp[intOf];omega
