/-
  A region that draws its order, in few words: each operation by one step. Conditions: none.
-/
import Derived.Test.YtfndfpdhlbmboaaGreatMd05
import Derived.Deep.CutBlock
import Derived.Test.YtfndfpdhlbmboaaGreatMdz
set_option maxRecDepth 100000
set_option linter.constructorNameAsVariable false
set_option maxHeartbeats 16000000
set_option linter.unusedVariables false
set_option linter.unusedSimpArgs false
namespace Go.Proofs.YtfndfpdhlbmboaaGreat
open Go Go.RowKit _root_.Go.Proofs.Tryz
section
variable {P:Program} {Q:Exit->Act->World->Prop} {a0:Act} {R:World->Prop} {Z:World->World->Prop} {tl:List Nat} {Fin aka:List Oper->List (List Nat×List (Nat×Nat))->List (Value->World->Prop)->Prop} {E:(Nat->Value)->World->Prop} {n m:Nat} {o:Oper} {r:List Oper} {x:List Nat×List (Nat×Nat)} {xs:List (List Nat×List (Nat×Nat))} {t:List (Value->World->Prop)}
theorem au.imp(j:∀r xs t,Fin r xs t->aka r xs t):∀(m:Nat) (r:List Oper) (xs:List (List Nat×List (Nat×Nat))) (t:List (Value->World->Prop)),au P a0 R Z tl Fin m r xs t->au P a0 R Z tl aka m r xs t
 | 0,r,xs,t,h=>j r xs t h
 | m+1,[],_,_,h=>h.elim
 | m+1,_ :: _,[],_,h=>h.elim
 | m+1,o :: r,x :: xs,t,h=>by
  rcases h with ⟨y,ψ,u⟩|⟨y,φ,u,A,B⟩
  ·exact .inl ⟨y,ψ,au.imp j m r xs _ u⟩
  ·exact .inr ⟨y,φ,u,A,au.imp j m r xs _ B⟩
theorem OL{id:Nat}{ops:Array Oper}{w:World}(m:Nat)(j:List Nat)(R:World->Prop)(S:World->World->Prop)(D:Nat->List Value->World->Prop)(u:List (List Nat×List (Nat×Nat)))(n:Nat)
 (y:∀W W',R W->Below W.heap.size W W'->R W') (I:∀W W',Below W.heap.size W W'->S W W') (N:∀k vs W W',D k vs W->Below W.heap.size W W'->D k vs W') (A:R w) (M:∀vs,D 0 vs w)
 (h:au P a0 R S j (λr xs t=>Jk P a0 ops u R S j D t 0 j/\∀(V:Nat->Value) (W:World),R W->D j.length (j.map V) W->cC V W 0 t->aH P a0 (λV W=>Q .normal (fZ V ops.toList 0 a0) W) m r xs V W) m ops.toList u [])
 (hn:a0.tmps.size=n:=by rfl) (hm:P.follows .mixedOrders=true:=by kernel_rfl) (B:sy ops n=true:=by kernel_rfl) (F:uq ops u=true:=by kernel_rfl) (G:I8 u m ops.size=true:=by kernel_rfl) (J:Ei u j m=true:=by kernel_rfl) (L:j.Nodup:=by decide) (H:m<=ops.size:=by decide) :
 (Code.region id ops true).wp P Q a0 w :=
 T6 m j R S D u n [] [] y I N A M (au.imp (λr xs t h=>⟨h.1,λ_ h=>yC,λ_ h=>yC,λV W O C _ _ E=>h.2 V W O C E⟩) _ _ _ _ h) hn hm B F G J L H aj rfl rfl
theorem OV{id:Nat}{ops:Array Oper}{w:World}(m:Nat)(j:List (List Nat×List (Nat×Nat)))(n:Nat)
 (h:au P a0 (K w) (λw w'=>Below w.heap.size w w') [] (λr xs t=>∀(V:Nat->Value) (W:World),K w W->cC V W 0 t->aH P a0 (λV W=>Q .normal (fZ V ops.toList 0 a0) W) m r xs V W) m ops.toList j [])
 (hn:a0.tmps.size=n:=by rfl) (hm:P.follows .mixedOrders=true:=by kernel_rfl) (u:sy ops n=true:=by kernel_rfl) (A:uq ops j=true:=by kernel_rfl) (B:I8 j m ops.size=true:=by kernel_rfl) (C:m<=ops.size:=by decide) :
 (Code.region id ops true).wp P Q a0 w :=
 OL m [] (K w) (λw w'=>Below w.heap.size w w') (λ_ _ _=>True) j n (λ_ _ h k=>h.tr k) (λ_ _ h=>h) (λ_ _ _ _ _ _=>trivial) (K.rf w) (λ_=>trivial)
  (au.imp (λr xs t h=>⟨trivial,λV W D _ y=>h V W D y⟩) _ _ _ _ h) hn hm u A B (by simp[Ei]) aj C
def ay3(ops:Array Oper):List (List Nat×List (Nat×Nat)) :=
 ops.toList.map λo=>((List.range ops.size).filter (ahead o).contains,o.op.operands.toList.filterMap λy=>match y with
  | .tmp t=>((ahead o).find? λj=>pK ops j==some t).map λj=>(t,j)
  | _=>none)
theorem dV{id ops w} m{j n}
 (h:au P a0 (K w) (λw w'=>Below w.heap.size w w') [] (λr xs t=>∀(V:Nat->Value) (W:World),K w W->cC V W 0 t->aH P a0 (λV W=>Q .normal (fZ V ops.toList 0 a0) W) m r xs V W) m ops.toList j [])
 (C:ay3 ops=j:=by conv=>lhs;cbv) (hn:a0.tmps.size=n:=by rfl) (hm:P.follows .mixedOrders=true:=by kernel_rfl) (u:sy ops n=true:=by kernel_rfl) (y:uq ops j=true:=by kernel_rfl) (A:I8 j m ops.size=true:=by kernel_rfl) (B:m<=ops.size:=by decide) :
 (Code.region id ops true).wp P Q a0 w:=OV m j n h hn hm u y A B
theorem abD{id:Nat}{ops:Array Oper}{w:World}(m:Nat)(ds:List Nat)(j:List (List Nat×List (Nat×Nat)))(n:Nat)
 (h:au P a0 (K w) (λw w'=>Below w.heap.size w w') [] (λr xs t=>ajw P a0 ops j (K w) t ds/\∀(V:Nat->Value) (W:World),K w W->X5 ds (λ_=>true) V->cC V W 0 t->aH P a0 (λV W=>Q .normal (fZ V ops.toList 0 a0) W) m r xs V W) m ops.toList j [])
 (hn:a0.tmps.size=n:=by rfl) (hm:P.follows .mixedOrders=true:=by kernel_rfl) (u:sy ops n=true:=by kernel_rfl) (A:uq ops j=true:=by kernel_rfl) (B:I8 j m ops.size=true:=by kernel_rfl) (C:m<=ops.size:=by decide) (D:ds.all (λk=>decide (k<m)&&!([]:List Nat).contains k)=true:=by decide) :
 (Code.region id ops true).wp P Q a0 w :=
 T6 m [] (K w) (λw w'=>Below w.heap.size w w') (λ_ _ _=>True) j n ds [] (λ_ _ h k=>h.tr k) (λ_ _ h=>h) (λ_ _ _ _ _ _=>trivial) (K.rf w) (λ_=>trivial)
  (au.imp (λr xs t h=>⟨trivial,h.1,λ_ h=>yC,λV W F _ E _ y=>h.2 V W F E y⟩) _ _ _ _ h) hn hm u A B (by simp[Ei]) aj C (λ_ _ _ _ h=>h.size) D rfl
theorem au.op(φ:Value->World->Prop)(st:∀v w w',φ v w->Z w w'->φ v w')
 (h:∀(V:Nat->Value) (w:World),R w->(∀j∈x.1,tab t j (V j) w)->if bR V o.guard=true then cW P φ w ((execOp (aF x.2 a0 V) (aG o.op o.type)).run P w)else φ undef w)
 (k:au P a0 R Z tl Fin m r xs (t++[φ])) (e:tl.contains t.length=false:=by (simp only[dx,fg,List.length_nil,List.contains_nil];try rfl)):au P a0 R Z tl Fin (m+1) (o :: r) (x :: xs) t:=.inr ⟨e,φ,st,h,k⟩
theorem au.s(k:au P a0 R Z tl Fin m r xs (t++[Rh]))(e:tl.contains t.length=true:=by (simp only[dx,fg,List.length_nil,List.contains_nil];try rfl)):au P a0 R Z tl Fin (m+1) (o :: r) (x :: xs) t:=.inl ⟨e,λ_=>True,k⟩
theorem au.kn(ψ:Value->Prop)(k:au P a0 R Z tl Fin m r xs (t++[λv _=>ψ v]))(e:tl.contains t.length=true:=by (simp only[dx,fg,List.length_nil,List.contains_nil];try rfl)):au P a0 R Z tl Fin (m+1) (o :: r) (x :: xs) t:=.inl ⟨e,ψ,k⟩
theorem Ye c:∀v w w',aJ c v w->Z w w'->aJ c v w':=λ_ _ _ h _=>h
theorem au.i{c:Value}(k:au P a0 R Z tl Fin m r xs (t++[aJ c]))
 (h:∀(V:Nat->Value) (w:World),R w->(∀j∈x.1,tab t j (V j) w)->if bR V o.guard=true then cW P (aJ c) w ((execOp (aF x.2 a0 V) (aG o.op o.type)).run P w)else aJ c undef w:=by
  intro V W kW hp;try simp only[cF,aO,aR,bW,bY,aJ]at hp
  simp[bR,aF,List.lookup,hp,cW,execOp,aG,aJ,cT,kW,qs,go_sem];rfl) (e:tl.contains t.length=false:=by (simp only[dx,fg,List.length_nil,List.contains_nil];try rfl)):au P a0 R Z tl Fin (m+1) (o :: r) (x :: xs) t:=.inr ⟨e,aJ c,Ye c,h,k⟩
theorem au.is(c:Value)
 (h:∀(V:Nat->Value) (w:World),R w->(∀j∈x.1,tab t j (V j) w)->if bR V o.guard=true then cW P (aJ c) w ((execOp (aF x.2 a0 V) (aG o.op o.type)).run P w)else aJ c undef w)
 (k:au P a0 R Z tl Fin m r xs (t++[aJ c])) (e:tl.contains t.length=false:=by (simp only[dx,fg,List.length_nil,List.contains_nil];try rfl)):au P a0 R Z tl Fin (m+1) (o :: r) (x :: xs) t:=.inr ⟨e,aJ c,Ye c,h,k⟩
theorem au.d(φ:Value->World->Prop)(st:∀v w w',φ v w->Z w w'->φ v w'){f:FuncId}{args:(Nat->Value)->Array Value}
 (A:∀V W,R W->(∀j∈x.1,tab t j (V j) W)->Calls P f (args V) W λe w'=>∃v,e=.returned v/\φ v w'/\K W w') (k:au P a0 R Z tl Fin m r xs (t++[φ]))
 (h:∀(V:Nat->Value) (w:World),R w->(∀j∈x.1,tab t j (V j) w)->bR V o.guard=true/\(execOp (aF x.2 a0 V) (aG o.op o.type)).run P w=.ok (.enter f (args V)) w:=by
  intro V W kW hp;try simp only[cF,aO,aR,bW,bY,aJ]at hp
  simp[bR,aF,List.lookup,hp,execOp,aG,qs,go_sem];try exact⟨rfl,rfl⟩
  all_goals fail) (e:tl.contains t.length=false:=by (simp only[dx,fg,List.length_nil,List.contains_nil];try rfl)):au P a0 R Z tl Fin (m+1) (o :: r) (x :: xs) t :=
 .inr ⟨e,φ,st,λV W kW hp=>by rw[if_pos (h V W kW hp).1,(h V W kW hp).2];exact (A V W kW hp).mono λe w' ⟨v,y,B,u⟩=>⟨v,y,B,u⟩,k⟩
theorem au.c(φ:Value->World->Prop)(st:∀v w w',φ v w->Z w w'->φ v w'){f:FuncId}{args:Array Value}
 (u:∀W,R W->Calls P f args W λe w'=>∃v,e=.returned v/\φ v w'/\K W w') (k:au P a0 R Z tl Fin m r xs (t++[φ]))
 (h:∀(V:Nat->Value) (w:World),R w->(∀j∈x.1,tab t j (V j) w)->bR V o.guard=true/\(execOp (aF x.2 a0 V) (aG o.op o.type)).run P w=.ok (.enter f args) w:=by
  intro V W kW hp;try simp only[cF,aO,aR,bW,bY,aJ]at hp
  simp[bR,aF,List.lookup,hp,execOp,aG,qs,go_sem];try exact⟨rfl,rfl⟩
  all_goals fail) (e:tl.contains t.length=false:=by (simp only[dx,fg,List.length_nil,List.contains_nil];try rfl)):au P a0 R Z tl Fin (m+1) (o :: r) (x :: xs) t :=
 au.d (args:=λ_=>args) φ st (λ_ W k _=>u W k) k h e
theorem au.v{c:Value}{f:FuncId}{args:Array Value}(A:∀W,R W->Calls P f args W λe w'=>e=.returned c/\K W w')(k:au P a0 R Z tl Fin m r xs (t++[aJ c]))
 (h:∀(V:Nat->Value) (w:World),R w->(∀j∈x.1,tab t j (V j) w)->bR V o.guard=true/\(execOp (aF x.2 a0 V) (aG o.op o.type)).run P w=.ok (.enter f args) w:=by
  intro V W kW hp;try simp only[cF,aO,aR,bW,bY,aJ]at hp
  simp[bR,aF,List.lookup,hp,execOp,aG,qs,go_sem];try exact⟨rfl,rfl⟩
  all_goals fail) (e:tl.contains t.length=false:=by (simp only[dx,fg,List.length_nil,List.contains_nil];try rfl)):au P a0 R Z tl Fin (m+1) (o :: r) (x :: xs) t :=
 au.c (aJ c) (Ye c) (λW k=>(A W k).mono λe w' ⟨y,u⟩=>⟨c,y,rfl,u⟩) k h e
theorem au.row{α:Type}{S:ei α}{e:TypeId}{N:Nat->Prop}(A:TypeId)(z:Value)(size bytes:Nat)(T:fY P A e z size bytes)(H:S.size=size)(E:size<=16777216)(u:Operand)(y:α)(G:o.op=.buildSlice A 1 #[(0,u)])(hg:o.guard=none)
 (h:∀(V:Nat->Value) (w:World),R w->(∀j∈x.1,tab t j (V j) w)->uQ N S y (aF x.2 a0 V u) w)
 (k:au P a0 R Z tl Fin m r xs (t++[eD N 0 e S y])) (D:∀v w w',eD N 0 e S y v w->Z w w'->eD N 0 e S y v w':=by exact awV _ _ _ _ _) (F:tl.contains t.length=false:=by (simp only[dx,fg,List.length_nil,List.contains_nil];try rfl)):au P a0 R Z tl Fin (m+1) (o :: r) (x :: xs) t:=by
 refine au.op (eD N 0 e S y) D (λV w C hp=>?_) k F
 obtain⟨I,B⟩:=h V w C hp
 rw[hg,if_pos (show bR V none=true from rfl),G,acj (P:=P) (w:=w) A _ z size bytes T u rfl af E]
 exact⟨eD.new B 0 (eV _),(K.rf w).al _⟩
theorem aH.p{k:Nat}{V:Nat->Value}{w:World}{v:Value}(h:aH P a0 E (k+1) r xs (bj V k v) w)(j:(execOp (aF x.2 a0 V) (aG o.op o.type)).run P w=.ok (.value v) w:=by
 simp[aF,List.lookup,bj,hA,execOp,aG,qs,go_sem];try rfl) (hg:o.guard=none:=by rfl):aH P a0 E k (o :: r) (x :: xs) V w:=aH.pure v hg j h
theorem aH.s{k:Nat}{V:Nat->Value}{w w':World}(h:aH P a0 E (k+1) r xs (bj V k undef) w')(j:(execOp (aF x.2 a0 V) (aG o.op o.type)).run P w=.ok .skip w':=by
 simp[aF,List.lookup,bj,hA,execOp,aG,qs,go_sem];try rfl) (hg:o.guard=none:=by rfl):aH P a0 E k (o :: r) (x :: xs) V w:=aH.skip w' hg j h
theorem aH.e{k:Nat}{ops:List Oper}{a:Act}{V:Nat->Value}{w:World}(h:Q .normal a w)(e:fZ V ops 0 a0=a:=by
 simp only[fZ,Act.put,sC,rI,rH,Nat.reduceAdd,bj];try rfl):aH P a0 (λV W=>Q .normal (fZ V ops 0 a0) W) k [] xs V w:=aH.nil (e▸h)
theorem aH.h{k:Nat}{ops:List Oper}{a:Act}{V:Nat->Value}{w:World}(h:Q .normal a w)(e:fZ V ops 0 a0=a:=by
 simp only[fZ,Act.put,sC,rI,rH,Nat.reduceAdd,bj,hA];try rfl):aH P a0 (λV W=>Q .normal (fZ V ops 0 a0) W) k [] xs V w:=aH.nil (e▸h)
end
theorem vR{l v w}(n:Nat)(h:sl l v w)(hn:n<18446744073709551616)(t:l.length<=1000000000) :
 Calls prog 146 #[v,.int .u64 n] w λe w'=>∃v',e=.returned v'/\Own w' w.heap.size 5 v' (l++az n)/\K w w':=by
 obtain⟨A,c,rfl,j⟩:=h
 exact xp A _ c l n hn w _ j (aD _) t
theorem Pz{l b v u w}(h:sl l v w)(k:sl b u w)(y:l.length<=1000000000)(hb:b.length<=1000000000) :
 Calls prog 248 #[v,u] w λe w'=>∃v',e=.returned v'/\Own w' w.heap.size 5 v' (l++iD b)/\K w w':=by
 obtain⟨A,c,rfl,j⟩:=h
 obtain⟨D,d,rfl,t⟩:=k
 apply bS (O2 A D _ c _ d l b w _ j t (aD _) y hb)
 rintro v' w'⟨B,hk⟩
 grind [sl,iD]
theorem X6 w:sl [] (.slice none 0 0) w:=⟨none,0,rfl,Reads.nil _ _ _ _⟩
def qE(x:aK):List UInt8:=if bJ x then eP x else []
theorem UZ x(h:cE x):(lS x).length<=54:=by
 obtain⟨_,_,_,u,t,j,_⟩:=h
 grind [cS,bf,gP,lS,dx]
def AE(x:aK)(k:Nat):List UInt8:=lS x++az x.es.length++(x.es.take k).flatMap λe=>iD (jT e)
theorem arO(x:aK)(k:Nat)(h:k<x.es.length):AE x (k+1)=AE x k++iD (jT x.es[k]):=by unfold AE;rw[gJ h,List.flatMap_append,uy,List.flatMap_nil,List.append_nil];simp only[eu]
theorem atl x k(t:cE x)(h8:x.es.length<=8)(u:∀e∈x.es,fN e=true):(AE x k).length<=20000:=by
 have B:=UZ x t;have C:=cS x.es.length af;have y:=acS (x.es.take k) λe j=>⟨u e (om j),t.2.2.2.2.2.2.2 e (om j)⟩
 have A:(x.es.take k).length<=8:=aA;unfold AE;simp only[dx];omega
theorem Uf x v w(h:dm x v w)(hfit:cE x) :
 Calls prog 247 #[v] w λe w' =>
  ∃v',e=.returned (.tuple #[v',.int .i64 (pL x)])/\Own w' w.heap.size 5 v' (qE x)/\K w w':=by
 have J:=ae λW h=>KB x v W h
 have h':=h
 obtain⟨vf,T,rfl,hf,he⟩:=h
 have N:=ai.new w 126 (aE x vf T)
 have y:=N.aU
 have H:=ae (ayj h')
 have HF:=ae hfit
 have Y:=ae (UZ x hfit)
 obtain⟨hik,hib,hic,hil,CQ,hiu,L,akb⟩:=hfit
 clear h'
 cases hok:bJ x
 ·have HE:=ae (DH hok);have HR:Hid (qE x=[]):=ae (by simp[qE,hok]);have hne:(pL x != 0)=true:=iK;clear hok;go_enter func247,ntmps247;go_wp2_with fail
  generalize w.alloc _=w1 at *;refine (J.aa _ (H.aa _ y)).mono ?_;rintro e w2⟨rfl,t⟩;go_wp2;go_ret2;exact⟨_,rfl,VW,y.tr t⟩
 have HE:=ae (KQ hok)
 have HR:Hid (qE x=eP x):=ae (by simp[qE,hok])
 have hne:(pL x != 0)=false:=iK
 obtain⟨-,-,hkk⟩:=DC hok
 have HH:Hid (lS x=az (bf x.kind)++fC (x.br,x.life,x.b6)++az (bf x.cl)++az x.sub):=ae (by simp[lS,fC])
 have h8:x.kind=1->x.es.length<=8/\∀e∈x.es,fN e=true:=by
  grind
 have hf2:x.kind=2->okF x.f=true:=by
  grind
 have jh:x.kind=1∨x.kind=2∨x.kind=3:=af
 have H1:=ae λh=>VO (x:=x) h
 have H2:=ae λh=>VP (x:=x) h
 have H3:=ae λh1 h2=>afz (x:=x) h1 h2
 have HU:=ae (arO x)
 have HUL:=ae λk h=>atl x k HF.aa (h8 h).1 (h8 h).2
 have Be:Hid (AE x 0=lS x++az x.es.length):=ae (by simp[AE])
 have HUE:Hid (AE x x.es.length=lS x++az x.es.length++x.es.flatMap λe=>iD (jT e)):=ae (by simp[AE])
 clear hok hkk HF
 obtain⟨k,b,l,s,cl,u,f,es⟩:=x
 simp only at N y hf he hik hib hic hil CQ hiu L akb h8 hf2 jh HH H1 H2 H3 HU HUL Be HUE hne HE HR J H Y⊢
 generalize lS ⟨k,b,l,s,cl,u,f,es⟩=hd at *
 generalize AE ⟨k,b,l,s,cl,u,f,es⟩=up at *
 generalize qE ⟨k,b,l,s,cl,u,f,es⟩=R at *
 generalize eP ⟨k,b,l,s,cl,u,f,es⟩=E at *
 generalize pL ⟨k,b,l,s,cl,u,f,es⟩=C at *
 go_enter func247,ntmps247
 go_wp2_with fail
 generalize w.alloc _=w1 at *
 generalize w.heap.size=g at N⊢
 have qx:=N.cells
 have qV:=eO _ _ _ _ hf y
 have Zn:=bo he y
 refine (J.aa _ (H.aa _ y)).mono ?_
 rintro e w2⟨rfl,t⟩
 clear hf he J H
 go_upto_region 4 with (fail)
 have MQ:=λW (kW:K w2 W)=>qx W (t.tr kW)
 have p0:=cS (bf k) (gP k)
 have pi0:(fC (b,l,s)).length<=27:=by have g2:=cS (bf b) (gP b);have g3:=cS l hil;have g4:=cS s CQ;simp only[fC,dx];omega
 have qs:=And.intro MQ (DK k)
 refine dV 7 ?_
 iterate 3 refine au.i ?_
 refine au.c (sl (az (bf k))) (oh _) (λW _=>(vR (bf k) (X6 W) (gP k) aj).mono λe w'' ⟨v',e1,U,hb⟩=>⟨v',e1,eT (aO (az _)▸U),hb⟩) ?_
 iterate 2 refine au.i ?_
 refine au.op (sl (az (bf k)++fC (b,l,s))) (oh _) (λV W kW hp=>?_) ?_
 ·simp only[cF,aO,aR,bW,bY,aJ]at hp;simp[bR,aF,List.lookup,hp,cW,execOp,aG,go_sem];refine (abM _ _ (b,l,s) W hp.1 af ⟨hib,hil,CQ⟩).mono ?_;rintro e w''⟨v',rfl,U,hb⟩;exact⟨v',rfl,eT U,hb⟩
 intro V w3 k3 hA
 simp only[aO,aR,cC,aJ,Nat.reduceAdd]at hA
 refine aH.p (aH.h ?_)
 have h7:=hA.2.2.2.2.2.2.1
 clear hA qs
 generalize V 6=v3 at *
 replace t:=t.tr k3
 clear MQ k3
 have qX:(az (bf k)++fC (b,l,s)).length<=100:=ba
 generalize az (bf k)++fC (b,l,s)=b3 at *
 go_wp2_with fail
 rw[DK cl]
 refine (vR (bf cl) h7 (gP cl) af).mono ?_
 rintro e w4⟨v4,rfl,eo,k4⟩
 have h4:=eT eo
 replace t:=t.tr k4
 have kL:(b3++az (bf cl)).length<=110:=by have:=cS (bf cl) (gP cl);simp;omega
 generalize b3++az (bf cl)=b4 at *
 clear eo k4 h7
 go_wp2_with fail
 refine (vR u h4 hiu af).mono ?_
 rintro e w5⟨v5,rfl,pq,k5⟩
 rw[<- HH.aa]at pq
 have G:=eT pq
 have X:=ua (base:=w.heap.size) (bn y.size t.size) pq rfl
 replace t:=t.tr k5
 have xQ:=y.tr t
 clear k5 h4 kL qX HH
 obtain rfl|rfl|rfl:=jh
 ·obtain⟨h8,hall⟩:=h8 rfl;obtain⟨D,d,rfl,hes,hd⟩:=Zn;have CY:=Y.aa;go_wp2_with fail
  refine (vR es.length G af af).mono ?_;rintro e w6⟨v6,rfl,B,F⟩;rw[<- Be.aa]at B;have Q9:=ua (base:=w.heap.size) (bn y.size t.size) B rfl;replace t:=t.tr F;clear G X B F xQ;go_wp2_with fail
  go_loopw [5,7,8,9,46] (fun o _ _ _ i wr=>∃j:Nat,j<=es.length/\i=.int .i64 j/\Own wr w.heap.size 5 o (up j)/\K w1 wr) (fun _ _ _ _ i _=>es.length-(intOf i).toNat)
  case atStart=>exact⟨0,af,rfl,Q9,t⟩
  case round =>
   obtain⟨j,hj,rfl,O,kr⟩:=hrel;by_cases S:j<es.length
   ·have aP:(j:Int)<es.length:=af;obtain⟨b1,off,cs,rfl,aN,hcl,⟨T,rfl,iN⟩,hcell⟩:=I7 hes j S ax;have d0:wr.cell? ⟨b1,off+j,none⟩=some T:=VX;have Et:=qC _ _ _ _ iN kr;have hs:=HU.aa j S;have Yr:=hall _ (bZ S);have oB:=akb _ (bZ S);have hl9:=HUL.aa j Lg;have hle:=Vi Yr oB;generalize es[j]=I at *;have Z:ko I=0:=by simp[ko,Yr]
    have ik:Co I=jT I:=by simp[Co,Yr]
    have Yt:(ko I != 0)=false:=by rw[Z];rfl
    have HS:=ae hs;clear hs hcell;go_wp2_with fail
    refine (arM Et oB).mono ?_;rintro e w7⟨v7,rfl,A,Q⟩;rw[ik]at A;have h7:=eT A;have h57:=oh _ _ _ _ (eT O) Q;have M:=kr.tr Q;clear A O Et iN;go_wp2_with fail
    refine (Pz h57 h7 af af).mono ?_;rintro e w8⟨v8,rfl,R3,k8⟩;rw[<- HS.aa]at R3;have ay4:=ua (base:=w.heap.size) (bn y.size M.size) R3 rfl;replace M:=M.tr k8;clear h57 h7 R3;go_wp2;go_roundw
    case rel=>exact⟨j+1,af,bI,ay4,M⟩
    case measure=>simp[intOf];omega
   ·have aP:¬(j:Int)<es.length:=af;obtain rfl:j=es.length:=af;have hfin:Own wr w.heap.size 5 u5 R:=by rw[HR.aa,H1.aa Lg,<- eu,<- HUE.aa];exact O
    clear O;go_wp2;go_ret2;exact⟨_,iK,hfin,y.tr kr⟩
 ·have Yu:=hf2 rfl;have CY:=Y.aa;have Z:mW f=0:=by simp[mW,Yu]
  have ik:Ck f=jC f:=by simp[Ck,Yu]
  have Yt:(mW f != 0)=false:=by rw[Z];rfl
  have hlf:=adz Yu L;have HIF:=ae L;clear L;go_wp2_with fail
  refine (aqr (eO _ _ _ _ qV t) HIF.aa).mono ?_;rintro e w6⟨v6,rfl,B,F⟩;rw[ik]at B;have h6:=eT B;have h56:=oh _ _ _ _ G F;replace t:=t.tr F;clear B G;go_wp2_with fail
  refine (Pz h56 h6 af af).mono ?_;rintro e w7⟨v7,rfl,A,Q⟩;rw[<- H2.aa Lg]at A;rw[<- HR.aa]at A;have ay5:=ua (base:=w.heap.size) (bn y.size t.size) A rfl;replace t:=t.tr Q;clear h56 h6 A;go_wp2;go_ret2;exact⟨_,iK,ay5,y.tr t⟩
 ·have hfin:Own w5 w.heap.size 5 v5 R:=by rw[HR.aa,H3.aa ax ax];exact X
  clear X G;go_wp2;go_ret2;simp_all
theorem apH A n c b w B(hR:Reads w B 1 A n (dS b))(hB:B<=w.heap.size)(hn:n<=1000000000) :
 Calls prog 273 #[.slice A n c] w λe w' =>
  ∃v',e=.returned (.tuple #[v',.int .i64 (yU b)])/\qM w' w.heap.size v' (yT b)/\Below w.heap.size w w':=by
 have bT:b.length=n:=FP
 have hle:b.length<=1000000000:=af
 clear bT
 go_enter func273,ntmps273
 go_wp2_with fail
 refine (KW A n c b w B hR hB hn).mono ?_
 rintro e D⟨g,rfl,hg,U,O⟩
 go_wp2_with fail
 refine (tj g b false D U).mono ?_
 rintro e w2⟨rfl,V,dM⟩
 have M:=U.lt
 have hz2:=dM.size
 have dP:=O.trans (lD dM hg O.size)
 have N:=nX b false
 have Yl:=nV b false
 have E:Hid (tF b=if decide ((aw b false).1<=16)&&!(gq (aw b false).1 (aw b false).2.1 (aw b false).2.2).2.2&&(gq (aw b false).1 (aw b false).2.1 (aw b false).2.2).2.1.isEmpty&&fN (gq (aw b false).1 (aw b false).2.1 (aw b false).2.2).1 then some (gq (aw b false).1 (aw b false).2.1 (aw b false).2.2).1 else none):=ae rfl
 generalize aw b false=a at *
 obtain⟨m,l,bad⟩:=a
 simp only at V N Yl E⊢
 clear U O hR
 by_cases Y:m<=16
 rotate_left
 ·have yS:(16:Int)<(m:Int):=af;have HE:Hid (yU b=40):=ae (by have:=E.aa;simp[Y]at this;simp[yU,this]);have HL:Hid (yT b=[]):=ae (by have:=E.aa;simp[Y]at this;simp[yT,this]);exact afp
 have yS:¬(16:Int)<(m:Int):=af
 go_wp2_with fail
 go_loopw [6,7,15] (fun v _ i j=>∃k:Nat,k<=m/\i=.int .u64 k/\qM j D.heap.size v (gq k l bad).1/\Rd j g (gq k l bad).2.1 (gq k l bad).2.2/\Below w.heap.size w j/\D.heap.size<=j.heap.size) (fun _ _ i _=>m-(intOf i).toNat)
 case atStart=>exact⟨0,af,rfl,kU _ _ _ _,V,dP,hz2⟩
 case round =>
  obtain⟨k,hk,rfl,C,F,hb,hz⟩:=hrel;by_cases N:k<m
  ·have fM:(k:Int)<m:=af;have y:=Vg k l bad;have hfit:∀s,gq k l bad=s->gq (k+1) l bad=(s.1++[(tL s.2.1 s.2.2).1],(tL s.2.1 s.2.2).2):=λs e=>by subst e;rfl
   generalize hs:gq k l bad=s at *;have hfit:=hfit s rfl;obtain⟨u,t,j⟩:=s;simp only at C F y;obtain⟨azG,Md⟩:=y;have Zl:=ae Md;have azH:u.length<=16:=af;clear Md;have T:=ae (OP g t j 16 wr F af af af);have jX:=DQ 16 t j;have I:Hid (gq (k+1) l bad=(u++[((⟨(aL 16 t j).1.toArray⟩,(fE (aL 16 t j).2.1 (aL 16 t j).2.2).1.1,(fE (aL 16 t j).2.1 (aL 16 t j).2.2).1.2.1,⟨(fE (aL 16 t j).2.1 (aL 16 t j).2.2).1.2.2.toArray⟩):cZ)],(fE (aL 16 t j).2.1 (aL 16 t j).2.2).2)):=ae hfit;clear hfit hs;have ew:=PS (aL 16 t j).2.1 (aL 16 t j).2.2;have L:Hid (∀W,Rd W g (aL 16 t j).2.1 (aL 16 t j).2.2->Calls prog 308 #[.pointer (some ⟨g,0,none⟩)] W λe w'=>e=.returned (vd (fE (aL 16 t j).2.1 (aL 16 t j).2.2).1)/\ox g (fE (aL 16 t j).2.1 (aL 16 t j).2.2).2.1 (fE (aL 16 t j).2.1 (aL 16 t j).2.2).2.2 W w'):=ae λW hW=>ab0 g _ _ W hW af
   generalize aL 16 t j=sb at *;obtain⟨nm,lb,wb⟩:=sb;simp only at T L I jX ew;generalize fE lb wb=sv at *;obtain⟨⟨vk,vn,vt⟩,lv,wv⟩:=sv;simp only[vd]at L I ew;have rX:g<wr.heap.size:=af;go_wp2_with fail
   refine T.aa.mono ?_;rintro e w3⟨v3,rfl,Z,dN,H⟩;have hst:=str (eT Z);have ix:=H.size;have Ch:=Li C H M;have S:=hb.trans (lD H hg hb.size);clear C F H hb T;go_wp2_with fail
   refine (L.aa _ dN).mono ?_;rintro e w4⟨rfl,X,J⟩;have gM:=J.size;have Gc:=Li Ch J M;have R:=S.trans (lD J hg S.size);clear Ch dN J S L hst Z;go_wp2_with (at_builtin;refine iW rfl _ _ 51 rfl D.heap.size 76 _ 4 48 TE _ _ _ rfl (qG Gc _) (w4.heap.size+1) _ 1 1 (nI (⟨nm.toArray⟩,vk,vn,⟨vt.toArray⟩)) rfl ?c1 ?c2 ?c3 ?c5 ?_)
   case c1=>exact Reads.new w4 (nI (⟨nm.toArray⟩,vk,vn,⟨vt.toArray⟩)) 76 4 1 rfl
   case c2=>exact aei _
   case c3=>omega
   case c5=>simp;omega
   intro v5 Q LW pn Yv G;have Q8:qM Q D.heap.size v5 (gq (k+1) l bad).1:=by
    rw[I.aa]
    unfold qM
    grind
   have iy:Rd Q g (gq (k+1) l bad).2.1 (gq (k+1) l bad).2.2:=by rw[I.aa];exact (X.ay (Below.alloc (cT _ _) (aD _) _)).below G M
   have azQ:=(R.alloc R.size _).trans (G.mono af);have p5:D.heap.size<=Q.heap.size:=by have:=G.size;simp at this;omega
   clear LW pn Yv G X Gc R;go_wp2;go_roundw
   case rel=>exact⟨k+1,af,bI,Q8,iy,azQ,p5⟩
   case measure=>simp[intOf];omega
  ·have fM:¬(k:Int)<m:=af;obtain rfl:k=m:=af;clear N hk;have y:=(Vg k l bad).2;generalize gq k l bad=s at *;obtain⟨u,t,j⟩:=s;simp only at C F E y;have Zl:=ae y;clear y;have LX:∀x:Bool,x=(!j&&t.isEmpty&&fN u)->Hid (yU b=(if x then 0 else 40))/\Hid (yT b=if x then u else []):=by
    intro x hx
    have h:=E.aa
    rw[show (decide (k<=16))=true by simp;omega]at h
    cases x with
    | true=>rw[Bool.true_and,<- hx]at h;exact⟨ae (by simp[yU,h]),ae (by simp[yT,h])⟩
    | false=>rw[Bool.true_and,<- hx]at h;exact⟨ae (by simp[yU,h]),ae (by simp[yT,h])⟩
   have RX:=ae LX;clear LX;go_wp2_with fail
   refine (KM g _ _ wr F).mono ?_;rintro e w'⟨rfl,rfl⟩;cases hd:(!j&&t.isEmpty)
   ·exact afu
   ·obtain⟨A',c',rfl,hR',_,_⟩:=C.slice;have hrow:=mN (bn hg (Nat.le_of_lt M)) C;go_wp2_with fail
    refine (Un A' c' u wr wr.heap.size hR' (aD _)).mono ?_;rintro e w6⟨rfl,jH⟩;have Yn:=hb.trans (jH.mono hb.size);have Q9:=qv hrow jH;cases hok:fN u
    ·have hne:(ko u != 0)=true:=P4;exact afv
    ·have hne:(ko u != 0)=false:=P4;exact afw
section
variable {l la lb:List cZ} {b:List UInt8} {v va vb:Value} {w:World}
theorem atm(h:sl b v w)(hn:b.length<=1000000000):Calls prog 273 #[v] w λe w' =>
 ∃v',e=.returned (.tuple #[v',.int .i64 (yU b)])/\qM w' w.heap.size v' (yT b)/\Below w.heap.size w w':=by
 obtain⟨A,c,rfl,j⟩:=h
 exact apH A _ c b w _ j (aD _) hn
end
structure DS(w0:World)(t:TypeId)(z:Array Value)(r g h:Nat)(l:List UInt8)(wr:Bool)(cs:Array Value)(W:World):Prop where
 rd:Rd W g l wr
 x:ai W h t cs
 rv:ai W r t z
 k:K w0 W
 o:w0.heap.size<=r/\r<g/\g<h
section
variable {w0 W W':World} {t:TypeId} {z cs:Array Value} {r g h:Nat} {l l':List UInt8} {wr wr':Bool} {row:Option Nat}
theorem DS.went(D:DS w0 t z r g h l wr cs W)(H:ox g l' wr' W W'):DS w0 t z r g h l' wr' cs W':=by have o:=D.o;exact⟨H.1,D.x.went H af,D.rv.went H af,D.k.trans (lD H.2 af D.k.size),o⟩
theorem DS.set(D:DS w0 t z r g h l wr cs W) i u:DS w0 t z r g h l wr (cs.setIfInBounds i u) (W.setCell ⟨h,i,none⟩ u):=by have o:=D.o;exact⟨D.rd.set af i u,D.x.aQ i u,D.rv.far aA u,D.k.setCell aA u,o⟩
theorem DS.gr(D:DS w0 t z r g h l wr cs W)(k:K W W'):DS w0 t z r g h l wr cs W' :=
 ⟨D.rd.ay k,D.x.ay k,D.rv.ay k,D.k.tr k,D.o⟩
theorem DS.mut(D:DS w0 t z r g h l wr cs W)(m:W.grownBy W' row)(u:∀b,row=some b->h<b):DS w0 t z r g h l wr cs W':=by have o:=D.o;have hb:Below (h+1) W W':=⟨m.os,m.tape,m.output,m.size,λi j=>m.block i (bz j D.x.lt) aA⟩;exact⟨D.rd.below hb af,D.x.below hb af,D.rv.below hb af,D.k.trans (hb.mono af),o⟩
theorem aI.went{lo}(H:ox g l' wr' W W')(hg:g<lo):aI lo none W W':=(aI.eU H.2 lo).more (aD _) (λk hk _=>ba)
theorem aI.set{lo b}(hb:b<lo) i u:aI lo none W (W.setCell ⟨b,i,none⟩ u) :=
 ⟨rfl,rfl,rfl,VS,λk hk _ _=>Below.heap_setCell W ⟨b,i,none⟩ u k ba⟩
end
theorem K.set{w0 W r}(h:K w0 W)(j:w0.heap.size<=r) i u:K w0 (W.setCell ⟨r,i,none⟩ u):=h.setCell j u
theorem K.sets{w0:World}{r:Nat}(j:w0.heap.size<=r):∀(us:List Value) (q:Nat) (W:World),K w0 W->K w0 (ef W r q us)
 | [],_,_,h=>h
 | u :: us,q,W,h=>K.sets j us _ _ (h.set j q u)
theorem aI.sets{lo b:Nat}(hb:b<lo):∀(us:List Value) (q:Nat) (W:World),aI lo none W (ef W b q us)
 | [],_,_=>aI.rf _ _ _
 | u :: us,q,W=>(aI.set hb q u).tr (aI.sets hb us _ _)
section
variable {w0 W:World} {t:TypeId} {z:Array Value} {r g h:Nat} {l:List UInt8} {wr:Bool}
theorem DS.sets:∀(q:Nat) (us:List Value) {W:World} {cs:Array Value},DS w0 t z r g h l wr cs W->DS w0 t z r g h l wr (oU cs.toList q us).toArray (ef W h q us)
 | q,[],W,cs,D=>by simpa [oU,ef]using D
 | q,u :: us,W,cs,D=>by have:=(D.set q u).sets (q+1) us;simpa [oU,ef,Array.toList_setIfInBounds]using this
theorem DS.put{cs}(D:DS w0 t z w0.heap.size g h l wr cs W) us(j:us.length=z.size):ai (ef W w0.heap.size 0 us) w0.heap.size t us.toArray/\K w0 (ef W w0.heap.size 0 us)/\aI (h+1) none W (ef W w0.heap.size 0 us) :=
 ⟨FU D.rv j,K.sets (aD _) _ _ _ D.k,aI.sets VY _ _ _⟩
end
theorem qM.rel{w B v l}(h:qM w B v l):∀w',aI B none w w'->cO.rel l [v] w':=by intro w' u;refine⟨v,rfl,afg (base:=B) ⟨h.1,h.2.imp id ?_⟩⟩;exact VQ
theorem fT.rel{w B v l}(h:fT w B v l):∀w',aI B none w w'->fF l v w':=by intro w' u;refine xA (base:=B) ⟨h.1,h.2.imp id ?_⟩;exact VQ
abbrev zEL:List Value:=[.int .i64 0,.int .i64 0,.int .u64 0,.int .u64 0,.int .i64 0,.int .u64 0,.slice none 0 0,.slice none 0 0]
abbrev eQ:Array Value:=#[.int .i64 0,.int .i64 0,.int .u64 0,.int .u64 0,.int .i64 0,.int .u64 0,.slice none 0 0,.slice none 0 0]
theorem ayl:(prog.info? 51).map (λi=>(i.zero,i.size,i.bytes))=some (some (.slice none 0 0),1,24):=by rfl
theorem JD:fY prog 37 51 (.slice none 0 0) 1 24:=⟨underlying37,ayl,rfl,ax⟩
theorem KY g l wr j w(h:Rd w g l wr)(B:l.length<=1000000000)(u:-9223372036854775808<=j)(t:j<=9223372036854775807) :
 Calls prog 210 #[.pointer (some ⟨g,0,none⟩),.int .i64 j] w λe w'=>∃v,e=.returned v/\sl (aL j l wr).1 v w'/\ox g (aL j l wr).2.1 (aL j l wr).2.2 w w' :=
 (OP g l wr j w h B u t).mono λ_ _ ⟨v,e,y,A⟩=>⟨v,e,eT y,A⟩
theorem atn{n l wr}(h:tF (aL n l wr).1=none):(mC n l wr).2.2=true:=by
 grind [mC]
theorem ato{n l wr e}(h:tF (aL n l wr).1=some e):mC n l wr=(e,(aL n l wr).2):=by
 grind [mC]
theorem atp{n l wr}(h:rG (aL n l wr).1=none):(qN n l wr).2.2=true:=by
 grind [qN]
theorem atq{n l wr e}(h:rG (aL n l wr).1=some e):qN n l wr=(e,(aL n l wr).2):=by
 grind [qN]
theorem atr{b}(h:tF b=none):yU b=40/\yT b=[]:=by simp[yU,yT,h]
theorem att{b l}(h:tF b=some l):yU b=0/\yT b=l:=by simp[yU,yT,h]
theorem arP{b}(h:rG b=none):vZ b=50/\vY b=[]:=by simp[vZ,vY,h]
theorem arQ{b l}(h:rG b=some l):vZ b=0/\vY b=l:=by simp[vZ,vY,h]
theorem aqs b k br j u cl t l wr(h:gT b false=((k,br,j,u,cl,t),l,wr)) :
 (min k 4=1->∀m A y,aw l wr=(m,A,y)->iL b=if !(di (mC b.length) (min m 9) A y).2.2&&(di (mC b.length) (min m 9) A y).2.1.isEmpty&&bJ { oX (k,br,j,u,cl,t)with es:=(di (mC b.length) (min m 9) A y).1 }then some { oX (k,br,j,u,cl,t)with es:=(di (mC b.length) (min m 9) A y).1 }else none) /\
 (min k 4=2->iL b=if !(qN b.length l wr).2.2&&(qN b.length l wr).2.1.isEmpty&&bJ { oX (k,br,j,u,cl,t)with f:=(qN b.length l wr).1 }then some { oX (k,br,j,u,cl,t)with f:=(qN b.length l wr).1 }else none) /\
 (min k 4≠1->min k 4≠2->iL b=if !wr&&l.isEmpty&&bJ (oX (k,br,j,u,cl,t))then some (oX (k,br,j,u,cl,t))else none):=by
 refine⟨λC m A y hn=>?_,λB=>?_,λC B=>?_⟩
 ·unfold iL qO;rw[h];simp only[C,hn,if_true]
 ·unfold iL qO;rw[h];simp only[B,if_true,show ¬((2:Nat)=1) by decide,if_false]
 ·unfold iL qO;rw[h];simp only[C,B,if_false]
theorem Pb{b}(h:iL b=none):yI b=110/\mr b=dD:=by simp[yI,mr,h]
theorem UE{b x}(h:iL b=some x):yI b=0/\mr b=x:=by simp[yI,mr,h]
theorem Ug b v w(h:sl b v w)(hn:b.length<=1000000000) :
 Calls prog 209 #[v] w λe w' =>
  ∃v',e=.returned (.tuple #[v',.int .i64 (yI b)])/\(∀W,aI w.heap.size none w' W->dm (mr b) v' W)/\K w w':=by
 obtain⟨A,c,rfl,hR⟩:=h
 have dc:=ai.new w 126 eQ
 have k0:=dc.aU
 have Bg:=(hR.below k0 (aD _)).more k0.size
 obtain⟨k,l1,e1,pr⟩:∃k l1 e1,aw b false=(k,l1,e1):=⟨_,_,_,rfl⟩
 obtain⟨br,l2,e2,r7⟩:∃k l2 e2,aw l1 e1=(k,l2,e2):=⟨_,_,_,rfl⟩
 obtain⟨y,l3,e3,R9⟩:∃k l3 e3,aw l2 e2=(k,l3,e3):=⟨_,_,_,rfl⟩
 obtain⟨t,l4,e4,Sa⟩:∃k l4 e4,aw l3 e3=(k,l4,e4):=⟨_,_,_,rfl⟩
 obtain⟨cl,l5,e5,Sb⟩:∃k l5 e5,aw l4 e4=(k,l5,e5):=⟨_,_,_,rfl⟩
 obtain⟨E,C,F,MR⟩:∃k C F,aw l5 e5=(k,C,F):=⟨_,_,_,rfl⟩
 have HP:=aqs b k br y t cl E C F (by simp only[gT,pr,r7,R9,Sa,Sb,MR])
 have hl6:C.length<=b.length:=by have g1:=nV b false;have g2:=nV l1 e1;have g3:=nV l2 e2;have g4:=nV l3 e3;have g5:=nV l4 e4;have g6:=nV l5 e5;rw[pr]at g1;rw[r7]at g2;rw[R9]at g3;rw[Sa]at g4;rw[Sb]at g5;rw[MR]at g6;simp only at g1 g2 g3 g4 g5 g6;omega
 have C1:=λg W h=>KF g b false 4 W h af
 have C2:=λg W h=>ab1 g l1 e1 W h
 have C3:=λg W h=>KF g l4 e4 32 W h af
 have C4:=λg W h=>tj g l5 e5 W h
 simp only[Cq,pr,r7,R9,Sa,Sb,MR]at C1 C2 C3 C4
 clear pr r7 R9 Sa Sb MR
 replace HP:=ae HP
 replace C1:=ae C1
 replace C2:=ae C2
 replace C3:=ae C3
 replace C4:=ae C4
 have Sc:min k 4<=4:=af
 have aEJ:min br 16<=16:=af
 have aEK:min cl 32<=32:=af
 generalize hkk:min k 4=N at *
 generalize pg:min br 16=G at *
 generalize zm:min cl 32=cc at *
 have HX:Hid (oX (k,br,y,t,cl,E)=⟨N,G,y,t,cc,E,[],[]⟩):=ae (by simp only[oX,hkk,pg,zm])
 clear hkk pg zm
 generalize oX (k,br,y,t,cl,E)=X0 at *
 go_enter func209,ntmps209
 go_wp2_with fail
 generalize w.alloc _=w1 at *
 refine (KW A _ c b w1 _ Bg (aD _) hn).mono ?_
 rintro e w2⟨g,rfl,hg,kJ,k2⟩
 have bA:=dc.ay k2
 have hrg:=bz dc.lt hg
 replace k0:=k0.tr k2
 have fL:=kJ.lt
 clear hR Bg hg k2 dc
 go_wp2_with fail
 refine (C1.aa g w2 kJ).mono ?_
 rintro e w3⟨rfl,hw3⟩
 have dN:=bA.went hw3 af
 have k3:K w w3:=k0.trans (lD hw3.2 af k0.size)
 have wO:=hw3.1
 have Mg:=wO.lt
 clear kJ bA hw3 k0 fL
 go_wp2_with fail
 have D:DS w 126 eQ w.heap.size g w3.heap.size l1 e1 #[.int .i64 N,.int .i64 0,.int .u64 0,.int .u64 0,.int .i64 0,.int .u64 0,.slice none 0 0,.slice none 0 0]
  (w3.alloc (.cells #[.int .i64 N,.int .i64 0,.int .u64 0,.int .u64 0,.int .i64 0,.int .u64 0,.slice none 0 0,.slice none 0 0] 126)) :=
  ⟨wO.al _,ai.new _ _ _,dN.alloc _,k3.al _,aD _,hrg,Mg⟩
 clear wO dN k3 Mg hrg
 generalize w3.alloc _=w4 at *
 generalize w3.heap.size=h at *
 refine (C2.aa g w4 D.rd).mono ?_
 rintro e w5⟨rfl,MS⟩
 replace D:=D.went MS
 clear MS
 have q:=D.x.cell
 have z:=D.x.frozen
 go_upto_region 4 with (fail)
 replace D:DS w 126 eQ w.heap.size g h l4 e4 #[.int .i64 N,.int .i64 G,.int .u64 y,.int .u64 t,.int .i64 0,.int .u64 0,.slice none 0 0,.slice none 0 0] (((w5.setCell ⟨h,1,none⟩ (.int .i64 G)).setCell ⟨h,2,none⟩ (.int .u64 y)).setCell ⟨h,3,none⟩ (.int .u64 t)):=((((((D).set 1 (.int .i64 G))).set 2 (.int .u64 y))).set 3 (.int .u64 t))
 clear q z
 generalize (((w5.setCell _ _).setCell _ _).setCell _ _)=w6 at *
 go_wp2_with fail
 refine (C3.aa g w6 D.rd).mono ?_
 rintro e w7⟨rfl,hw7⟩
 replace D:=D.went hw7
 clear hw7
 have q:=D.x.cell
 have z:=D.x.frozen
 go_upto_region 5 with (fail)
 replace D:DS w 126 eQ w.heap.size g h l5 e5 #[.int .i64 N,.int .i64 G,.int .u64 y,.int .u64 t,.int .i64 cc,.int .u64 0,.slice none 0 0,.slice none 0 0] (w7.setCell ⟨h,4,none⟩ (.int .i64 cc)):=((D).set 4 (.int .i64 cc))
 clear q z
 generalize w7.setCell _ _=w8 at *
 go_wp2_with fail
 refine (C4.aa g w8 D.rd).mono ?_
 rintro e w9⟨rfl,hw9⟩
 replace D:=D.went hw9
 clear hw9
 have q:=D.x.cell
 have z:=D.x.frozen
 go_upto_region 6 with (fail)
 replace D:DS w 126 eQ w.heap.size g h C F #[.int .i64 N,.int .i64 G,.int .u64 y,.int .u64 t,.int .i64 cc,.int .u64 E,.slice none 0 0,.slice none 0 0] (w9.setCell ⟨h,5,none⟩ (.int .u64 E)):=((D).set 5 (.int .u64 E))
 clear q z C1 C2 C3 C4
 generalize w9.setCell _ _=wa at *
 have RV:=D.o
 have MT:=D.x.lt
 have HM:=ae (λ(l:List UInt8) wr=>IG (b.length:Int) l wr)
 have Mh:((b.length:Nat):Int)<=9223372036854775807:=af
 have q:=D.x.cell
 go_upto_block 0 with (fail)
 go_cut [6,7,8,9]from 26 to 64 (fun _ _ _ _ W=>∃(X:aK) (l:List UInt8) (e:Bool) (vf ve:Value),DS w 126 eQ w.heap.size g h l e (aE X vf ve) W /\
  (∀W',aI (h+1) none W W'->fF X.f vf W')/\(∀W',aI (h+1) none W W'->aq cO X.es ve W')/\Hid (iL b=if !e&&l.isEmpty&&bJ X then some X else none))
 case first =>
  by_cases gE:N=1
  ·subst gE;replace D:DS w 126 eQ w.heap.size g h C F #[.int .i64 (1:Int),.int .i64 G,.int .u64 y,.int .u64 t,.int .i64 cc,.int .u64 E,.slice none 0 0,.slice none 0 0] wa:=D;obtain⟨m,Z,e7,Sd⟩:∃k la ea,aw C F=(k,la,ea):=⟨_,_,_,rfl⟩;rw[show ((1:Nat):Int)=1 from rfl]at HX;have V:=ae (HP.aa.1 rfl m Z e7 Sd);rw[HX.aa]at V;have MU:Z.length<=b.length:=by have:=nV C F;rw[Sd]at this;simp only at this;omega
   have C7:=λg W h=>KF g C F 9 W h af
   simp only[Sd]at C7;clear Sd HP HX;have hm9:min m 9<=9:=af;generalize min m 9=M at *;go_wp2_with fail
   clear q;refine (C7 g wa D.rd).mono ?_;rintro e wb⟨rfl,MV⟩;replace D:=D.went MV;clear MV C7;have HQ:=ae (λk l wr=>Lk (KP (b.length:Int)) k l wr);have akc:=ae (λk (hk:k<=M) (hb:(di (mC (b.length:Int)) k Z e7).2.2=true)=>show yI b=110/\mr b=dD from Pb (by
    have:=VJ (KP (b.length:Int)) hb (M-k);rw[show k+(M-k)=M by omega]at this;rw[V.aa,this];rfl))
   go_wp2_with fail
   go_loopw [6,7,30] (fun _ _ i W=>∃j:Nat,j<=M/\i=.int .i64 j/\∃es ve J I,Hid (di (mC (b.length:Int)) j Z e7=(es,J,I)) /\
    DS w 126 eQ w.heap.size g h J I #[.int .i64 (1:Int),.int .i64 G,.int .u64 y,.int .u64 t,.int .i64 cc,.int .u64 E,.slice none 0 0,ve] W /\
    aX (h+1) (h+1) 51 cO es ve W) (λ_ _ i _=>M-(intOf i).toNat)
   case atStart=>exact⟨0,af,rfl,[],_,Z,e7,ae rfl,D,aX.nil _ _ _ _ _⟩
   case round =>
    clear D;obtain⟨j,hj,rfl,es,ve,J,I,HJ,D,R⟩:=hrel;have Zu:=HQ.aa j Z e7;rw[HJ.aa]at Zu;simp only at Zu;obtain⟨aEL,akd⟩:=Zu;have Bh:=ae akd;have aEM:es.length<=9:=af;clear akd;by_cases hlt:j<M
    ·have aP:(j:Int)<M:=af;have hgr:=D.x.lt;go_wp2_with fail
     refine (KY g J I (b.length:Int) wr D.rd af af Mh).mono ?_;rintro e wc⟨vb,rfl,oA,hwc⟩;replace D:=D.went hwc;replace R:=R.up (aD _) (aI.went hwc VY);have hlb:=HM.aa J I;have azR:=DQ (b.length:Int) J I;have wQ:=ae (@atn (b.length:Int) J I);have wR:=ae (λe h=>@ato (b.length:Int) J I e h);have Bi:Hid (di (mC (b.length:Int)) (j+1) Z e7=(es++[(mC (b.length:Int) J I).1],(mC (b.length:Int) J I).2)):=ae (by
      have:=HJ.aa;rw[di,this])
     clear hwc;generalize aL (b.length:Int) J I=B at *;obtain⟨bs,lk,ek⟩:=B;simp only at oA D R hlb azR wQ wR;go_wp2_with fail
     refine (atm oA af).mono ?_;rintro e S⟨v9,rfl,O,k9⟩;have sQ:=D.x.lt;have lq:=R.blk;replace D:=D.gr k9;replace R:=R.st k9;clear oA;cases lr:tF bs with
     | none => have H:=atr lr;have HN:=ae (akc.aa (j+1) af (by rw[Bi.aa];exact wQ.aa lr));rw[H.1];clear lr H O;exact P6
     | some ev =>
      have H:=att lr;rw[H.1];rw[H.2]at O;have CZ:Hid (di (mC (b.length:Int)) (j+1) Z e7=(es++[ev],lk,ek)):=ae (by rw[Bi.aa,wR.aa _ lr]);clear lr H Bi wQ wR HJ;have Sg:=ae O.rel;obtain⟨L,Q,rfl⟩:=yy (afg O);clear O;obtain⟨css,hown,hcl,lJ⟩:=R;have Sh:=k9.size;have q:=D.x.cell;have kA:=K.new S (.cells #[.slice L ev.length Q] 51);have hbase:h+1<=(S.alloc (.cells #[.slice L ev.length Q] 51)).heap.size:=by have:=kA.size;have:=D.x.lt;omega
      go_wp2_with (at_builtin;refine iW rfl _ _ 37 rfl (h+1) 51 _ 1 24 JD _ _ _ rfl (qG hown _) (S.heap.size+1) _ 1 1 [.slice L ev.length Q] rfl ?c1 ?c2 ?c3 hbase ?_)
      case c1=>exact Reads.new S [.slice L ev.length Q] 51 1 1 rfl
      case c2=>intro u hu;simp at hu;subst hu;rfl
      case c3=>omega
      intro v9 w9 gg bC cY _;have DA:=D.gr kA;replace DA:=DA.mut bC (λb0 hb0=>(lq b0 hb0).1);have bq:=aX.snoc hcl (λw' u=>lJ w' (aI.tr (aI.aT kA _ _) u)) gg bC rE
       (λw' u=>Sg.aa w' ((aI.tr (aI.aT kA _ _) u).more af (λk hk _ e=>by have:=(lq k e.symm).2;omega)))
      clear gg bC cY hown lJ D q;obtain⟨JE,JF,rfl,-⟩:=bq.slice;have q:=DA.x.cell;have z:=DA.x.frozen;go_upto_region 14 with (fail);have hsz:(es++[ev]).length=es.length+1:=aj;rw[hsz]at bq;clear hsz q z;replace DA:DS w 126 eQ w.heap.size g h lk ek #[.int .i64 (1:Int),.int .i64 G,.int .u64 y,.int .u64 t,.int .i64 cc,.int .u64 E,.slice none 0 0,.slice JE (es.length+1) JF] (w9.setCell ⟨h,7,none⟩ (.slice JE (es.length+1) JF)):=DA.set 7 (.slice JE (es.length+1) JF);replace bq:=bq.up (w':=w9.setCell ⟨h,7,none⟩ (.slice JE (es.length+1) JF)) (aD _) (aI.set af 7 _);generalize w9.setCell _ _=wt at *;go_wp2;go_roundw
      case rel=>exact⟨j+1,af,bI,es++[ev],_,lk,ek,CZ,DA,bq⟩
      case measure=>simp[intOf];omega
    ·have aP:¬(j:Int)<M:=af;obtain rfl:j=M:=af;have HD:=V.aa;rw[HJ.aa]at HD;simp only at HD;replace HD:=ae HD;obtain⟨JE,JF,rfl,-⟩:=R.slice;have T:∀W',aI (h+1) none wr W'->fF [] (.slice none 0 0) W':=λ_ _=>⟨none,0,rfl,Reads.nil _ _ _ _⟩
     have Y:∀W',aI (h+1) none wr W'->aq cO es (.slice JE es.length JF) W':=λW' u=>(R.up (aD _) u).aq
     clear akc V HJ HQ Bh R;go_wp2;go_meet
     case rel=>exact⟨⟨1,G,y,t,cc,E,[],es⟩,J,I,_,_,D,T,Y,HD⟩
  by_cases hk2:N=2
  ·subst hk2;replace D:DS w 126 eQ w.heap.size g h C F #[.int .i64 (2:Int),.int .i64 G,.int .u64 y,.int .u64 t,.int .i64 cc,.int .u64 E,.slice none 0 0,.slice none 0 0] wa:=D;rw[show ((2:Nat):Int)=2 from rfl]at HX;have V:=ae (HP.aa.2.1 rfl);rw[HX.aa]at V;clear HP HX;go_wp2_with fail
   clear q;refine (KY g C F (b.length:Int) wa D.rd af af Mh).mono ?_;rintro e wc⟨vb,rfl,oA,hwc⟩;replace D:=D.went hwc;have hlb:=HM.aa C F;have wQ:=ae (@atp (b.length:Int) C F);have wR:=ae (λe h=>@atq (b.length:Int) C F e h);clear hwc;generalize aL (b.length:Int) C F=B at *;obtain⟨bs,lk,ek⟩:=B;simp only at oA D hlb wQ wR;have sQ:=D.x.lt;go_wp2_with fail
   refine (arH oA af).mono ?_;rintro e S⟨v9,rfl,O,k9⟩;replace D:=D.gr k9;clear oA;cases lr:rG bs with
   | none => have H:=arP lr;have HN:=ae (show yI b=110/\mr b=dD from Pb (by rw[V.aa,wQ.aa lr];rfl));rw[H.1];clear lr H O;exact P6
   | some fl =>
    have H:=arQ lr;rw[H.1];rw[H.2]at O;have HD:=V.aa;rw[wR.aa _ lr]at HD;simp only at HD;replace HD:=ae HD;clear lr H wQ wR V;have HFl:=ae O.rel;obtain⟨L,Q,rfl⟩:=cA (xA O);clear O;have q:=D.x.cell;have z:=D.x.frozen;go_upto_region 20 with (fail);replace D:DS w 126 eQ w.heap.size g h lk ek #[.int .i64 (2:Int),.int .i64 G,.int .u64 y,.int .u64 t,.int .i64 cc,.int .u64 E,.slice L fl.length Q,.slice none 0 0] (S.setCell ⟨h,6,none⟩ (.slice L fl.length Q)):=((D).set 6 (.slice L fl.length Q));have T:∀W',aI (h+1) none (S.setCell ⟨h,6,none⟩ (.slice L fl.length Q)) W'->fF fl (.slice L fl.length Q) W':=λW' u =>
     HFl.aa W' ((aI.tr (aI.set af 6 _) u).more af (λ_ _ _=>aj))
    have Y:∀W',aI (h+1) none (S.setCell ⟨h,6,none⟩ (.slice L fl.length Q)) W'->aq cO [] (.slice none 0 0) W':=λ_ _=>gI cO _
    clear HFl q z;generalize S.setCell _ _=wt at *;go_wp2;go_meet
    case rel=>exact⟨⟨2,G,y,t,cc,E,fl,[]⟩,lk,ek,_,_,D,T,Y,HD⟩
  have HD:=ae (HP.aa.2.2 gE hk2);rw[HX.aa]at HD;clear HP;have T:∀W',aI (h+1) none wa W'->fF [] (.slice none 0 0) W':=λ_ _=>⟨none,0,rfl,Reads.nil _ _ _ _⟩
  have Y:∀W',aI (h+1) none wa W'->aq cO [] (.slice none 0 0) W':=λ_ _=>gI cO _
  have g1:((N:Int)==1)=false:=ba;have g2:((N:Int)==2)=false:=ba;go_wp2;go_meet
  case rel=>exact⟨⟨N,G,y,t,cc,E,[],[]⟩,C,F,_,_,D,T,Y,HD⟩
 case rest =>
 clear D q
 obtain⟨X,l,e,vf,ve,D,T,Y,HD⟩:=hcut
 obtain⟨A6,c6,rfl⟩:=cA (T _ (aI.rf _ _ _))
 obtain⟨A7,c7,rfl⟩:=av (Y _ (aI.rf _ _ _))
 have U:=aI.rf (h+1) none wc
 have Bk:Hid ((∀W',aI (h+1) none wc W'->fF X.f (.slice A6 X.f.length c6) W')/\∀W',aI (h+1) none wc W'->aq cO X.es (.slice A7 X.es.length c7) W'):=ae ⟨T,Y⟩
 clear T Y
 go_wp2_with fail
 refine (KM g _ _ _ D.rd).mono ?_
 rintro e w'⟨rfl,rfl⟩
 have HB:Hid ((!e&&l.isEmpty&&bJ X)=false->yI b=110/\mr b=dD):=ae λh=>Pb P7
 have HG:Hid ((!e&&l.isEmpty&&bJ X)=true->yI b=0/\mr b=X):=ae λh=>UE P7
 clear HD
 cases hd:(!e&&l.isEmpty)
 ·have HN:=ae (HB.aa VZ);exact P6
 have q:=D.x.cell
 go_wp2_with fail
 refine (KB X _ _ ⟨_,_,rfl,Bk.aa.1 _ U,Bk.aa.2 _ U⟩).mono ?_
 rintro e wz⟨rfl,kz⟩
 replace D:=D.gr kz
 replace U:=U.tr (aI.aT kz _ _)
 cases hok:bJ X
 ·have HN:=ae (HB.aa IU);have hne:(pL X != 0)=true:=by rw[DH hok];rfl
  clear q;exact P6
 have HN:=ae (HG.aa IU)
 have hne:(pL X != 0)=false:=by rw[KQ hok];rfl
 clear q
 have q:=D.rv.cell
 have z:=D.rv.frozen
 have q2:=D.x.cell
 go_wp2
 have P9:=D.put [.int .i64 X.kind,.int .i64 X.br,.int .u64 X.life,.int .u64 X.b6,.int .i64 X.cl,.int .u64 X.sub,.slice A6 X.f.length c6,.slice A7 X.es.length c7] rfl
 simp only[ef,Nat.reduceAdd,mQ]at P9
 clear q q2 z
 generalize World.setCell _ _ _=W9 at *
 have e9:=P9.1.cell
 have U9:=U.tr P9.2.2
 have hgo:=D.o
 refine bodyPost_ret (v:=.tuple #[.agg (aE X (.slice A6 X.f.length c6) (.slice A7 X.es.length c7)),.int .i64 0]) afZ rfl ?_
 exact⟨_,P8,af0,P9.2.1⟩
def ur(x:Rec):Int:=if dR x then 0 else 110
def zY(x:Rec):List UInt8:=if dR x then bL x else []
theorem adG{x}(h:x.kind=2∨x.kind=3):bL x=az (bf x.kind)++az x.n++iD (eP x.e):=by grind [bL]
theorem atu{x}(h:x.kind=4∨x.kind=5):bL x=az (bf x.kind)++az x.n++fC (x.br,x.life,x.b6):=by
 grind [bL,az,bf,fC]
theorem avu{x}(h:x.kind=1):bL x=az (bf x.kind)++az x.n:=by grind [bL,az,bf]
def owA(l:List UInt8)(v:Value)(w:World):Prop:=∃B,Own w B 5 v l
theorem aym{l v w}(h:owA l v w):sl l v w:=eT h.choose_spec
def MW(lo:Nat)(l:List UInt8)(v:Value)(w:World):Prop:=Own w lo 5 v l
theorem ayn lo l:∀v w w',MW lo l v w->Below w.heap.size w w'->MW lo l v w':=λ_ _ _ h k=>qv h k
theorem Vk x v w(h:p6 x v w)(hfit:jQ x) :
 Calls prog 213 #[v] w λe w' =>
  ∃v',e=.returned (.tuple #[v',.int .i64 (ur x)])/\Own w' w.heap.size 5 v' (zY x)/\K w w':=by
 have y:=ae λW h=>adE x v W h
 have h':=h
 obtain⟨vf,Y,rfl,hf,X⟩:=h
 have M:=ai.new w 197 (eY x vf Y)
 have A:=M.aU
 have J:=ae (ayk h')
 clear h'
 obtain⟨hik,U,T,hib,hil,CQ⟩:=hfit
 cases hok:dR x
 ·have HE:Hid (ur x=110):=ae V0;have HR:Hid (zY x=[]):=ae V1;rw[hok]at y;clear hok;go_enter func213,ntmps213;go_wp2_with fail
  generalize w.alloc _=w1 at *;refine (y.aa _ (J.aa _ A)).mono ?_;rintro e w2⟨rfl,u⟩;go_wp2;go_ret2;exact⟨_,iK,VW,A.tr u⟩
 have HE:Hid (ur x=0):=ae V0
 have HR:Hid (zY x=bL x):=ae V1
 have hkk:=BR hok
 rw[hok]at y
 have D:=ae λh=>avu (x:=x) h
 have B:=ae λh=>adG (x:=x) h
 have F:=ae λh=>atu (x:=x) h
 clear hok
 obtain⟨k,n,x,b,l,s⟩:=x
 simp only at M A hf X hik U T hib hil CQ hkk HE HR y J D B F⊢
 generalize zY ⟨k,n,x,b,l,s⟩=R at *
 generalize bL ⟨k,n,x,b,l,s⟩=E at *
 generalize ur ⟨k,n,x,b,l,s⟩=C at *
 have ER:∀W,K w W->dm x (.agg (aE x vf Y)) W:=λW k=>⟨vf,Y,rfl,eO _ _ _ _ hf k,bo X k⟩
 have Zv:k=1∨(k=2∨k=3)∨k=4∨k=5:=af
 have wS:k=2∨k=3->bJ x=true:=by
  grind
 clear hkk
 go_enter func213,ntmps213
 go_wp2_with fail
 generalize w.alloc _=w1 at *
 have hz1:=A.size
 obtain⟨lo,G⟩:∃lo,Hid (lo=w.heap.size):=⟨_,ae rfl⟩
 rw[<- G.aa]at hz1
 have HG:Hid (∀W,K w W->lo<=W.heap.size):=ae λW k=>by rw[G.aa];exact k.size
 generalize w.heap.size=g at M⊢
 have qx:=M.cells
 refine (y.aa _ (J.aa _ A)).mono ?_
 rintro e w2⟨rfl,u⟩
 clear hf X y J
 go_upto_region 3 with (fail)
 have MQ:=λW (kW:K w2 W)=>qx W (u.tr kW)
 have hz2:=bn hz1 u.size
 have p0:=cS (bf k) (gP k)
 have p1:=cS n U
 have qs:=And.intro MQ (DK k)
 refine dV 7 ?_
 iterate 3 refine au.i ?_
 refine au.c (sl (az (bf k))) (oh _) (λW _=>(vR (bf k) (X6 W) (gP k) aj).mono λe w'' ⟨v',Q,ho,hb⟩=>⟨v',Q,eT (aO (az _)▸ho),hb⟩) ?_
 iterate 2 refine au.i ?_
 refine au.op (MW lo (az (bf k)++az n)) (ayn _ _) (λV W kW hp=>?_) ?_
 ·simp only[cF,aO,aR,bW,bY,aJ]at hp;simp[bR,aF,List.lookup,hp,cW,execOp,aG,go_sem];exact (vR n hp.1 U af).mono λe w'' ⟨v',Q,ho,hb⟩=>⟨v',Q,mN (bn hz2 kW.size) ho,hb⟩
 intro V w3 k3 hA
 simp only[aO,aR,cC,aJ,Nat.reduceAdd]at hA
 refine aH.p (aH.h ?_)
 have h7:=hA.2.2.2.2.2.2.1
 clear hA qs
 generalize V 6=v3 at *
 have h7o:=ae h7
 replace h7:=eT h7
 clear MQ
 have qX:(az (bf k)++az n).length<=100:=ba
 have j:=A.tr (u.tr k3)
 replace u:=u.tr k3
 clear k3
 generalize az (bf k)++az n=b3 at *
 obtain gE|N|ake:=Zv
 ·subst gE;have L:=h7o.aa;rw[<- D.aa rfl,<- HR.aa]at L;have L:=ae L;clear D B F;go_wp2;go_ret2;exact⟨_,iK,by rw[<- G.aa];exact L.aa,j⟩
 ·have Yw:=wS N;have O:=ae (HR.aa.trans (B.aa N));have hc1:=KQ Yw;have ik:qE x=eP x:=by simp[qE,Yw]
  have Yt:(pL x != 0)=false:=by rw[hc1];rfl
  have hlx:=KX Yw T;clear D B F HR;go_upto_region 5 with (fail);rcases N with rfl|rfl;all_goals
   go_wp2_with fail
   refine (Uf x _ _ (ER _ j) T).mono ?_
   rintro e w4⟨v4,rfl,t,H⟩
   rw[ik]at t
   have I:=eT t
   have h74:=oh _ _ _ _ h7 H
   replace j:=j.tr H
   clear t h7
   go_wp2_with fail
   refine (Pz h74 I af af).mono ?_
   rintro e w5⟨v5,rfl,Z,k5⟩
   have S:=j
   rw[<- O.aa]at Z
   have h5:=ae (show MW lo R v5 w5 from mN (HG.aa _ S) Z)
   replace j:=j.tr k5
   clear h74 I Z
   go_wp2
   go_ret2
   exact⟨_,iK,by rw[<- G.aa];exact h5.aa,j⟩
 ·have O:=ae (HR.aa.trans (F.aa ake));clear D B F HR;go_upto_region 5 with (fail);rcases ake with rfl|rfl;all_goals
   go_wp2_with fail
   refine (abM _ _ (b,l,s) _ h7 af ⟨hib,hil,CQ⟩).mono ?_
   rintro e w4⟨v4,rfl,t,H⟩
   have S:=j
   rw[<- O.aa]at t
   have I:=ae (show MW lo R v4 w4 from mN (HG.aa _ S) t)
   replace j:=j.tr H
   clear t h7
   go_wp2
   go_ret2
   exact⟨_,iK,by rw[<- G.aa];exact I.aa,j⟩
theorem avv x v w(h:p6 x v w)(hfit:jQ x) :
 Calls prog 213 #[v] w λe w' =>
  ∃v',e=.returned (.tuple #[v',.int .i64 (ur x)])/\owA (zY x) v' w'/\K w w' :=
 (Vk x v w h hfit).mono λe w' ⟨v',j,h,k⟩=>⟨v',j,⟨_,h⟩,k⟩
theorem arR x v w(h:p6 x v w)(hfit:jQ x) :
 Calls prog 213 #[v] w λe w' =>
  ∃v',e=.returned (.tuple #[v',.int .i64 (ur x)])/\sl (zY x) v' w'/\K w w':=by
 refine (avv x v w h hfit).mono ?_
 rintro e w'⟨v',rfl,h,k⟩
 grind [aym]
