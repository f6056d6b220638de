/-
  A region that draws its order, each of whose operations needs no more than what the operations before it (by its edges) have left: one obligation for each operation, whatever order is drawn. Conditions: what an operation leaves stays true while the others go on.
-/
import Derived.Test.YtoeiinllelipoaaGreatMa01
import Derived.Orders
import Derived.BigQuiet
import Derived.IntWalk
import Derived.Deep.QuietTactic
import Derived.Deep.RegionHeld3
import Derived.Deep.DrawnRows
import Derived.Test.YtoeiinllelipoaaGreatMz
set_option maxRecDepth 100000
set_option maxHeartbeats 16000000
set_option linter.unusedVariables false
set_option linter.unusedSimpArgs false
namespace Go.Proofs.YtoeiinllelipoaaGreat
open Go Go.RowKit Tryz
section
variable {P:Program} {Q:Exit->Act->World->Prop}
def oH(ops:Array Oper)(j:Nat):Option Tmp:=(ops[j]?).bind (·.dst)
def ahead(o:Oper):List Nat:=(o.after.toList.filter (Region.binds .any)).map (·.on)
def o8(ops:Array Oper)(n:Nat):Bool :=
 ops.toList.zipIdx.all λx =>
  (ahead x.1).all (λj=>decide (j<x.2)) &&
  (match x.1.op with | .select ..=>false|_=>true) &&
  (match x.1.dst with|some d=>decide (d<n)&&ops.toList.zipIdx.all (λy=>y.2==x.2||y.1.dst != some d)|none=>true) &&
  (match x.1.guard with|some (j,_)=>(ahead x.1).contains j&&(oH ops j).isSome|none=>true) &&
  ((x.1.looksAt ops).all λt=>ops.toList.zipIdx.all λy=>y.1.dst != some t||(y.2 != x.2&&((ahead x.1).contains y.2||(ahead y.1).contains x.2)))
def tj(ops:Array Oper)(h:Act)(V:Nat->Value)(o:Oper):Operand->Value
 | .tmp t=>match (ahead o).find? (λj=>oH ops j==some t)with
  | some j=>V j
  | none=>h.tmps.getD t undef
 | x=>h.eval x
def wants(V:Nat->Value)(o:Oper):Bool :=
 match o.guard with
 | none=>true
 | some (j,want)=>match V j with
  | .bool b=>b==want
  | _=>false
def dw(L:Nat->Bool)(i:Nat):Nat->Bool:=λj=>if j=i then true else L j
def mm(P:Program)(R:Value->World->Prop):Result Next->Prop
 | .ok (.value v) w'=>R v w'
 | .ok .skip w'=>R undef w'
 | .ok (.enter f args) w'=>Calls P f args w' λe h=>∃v,e=.returned v/\R v h
 | _=>False
def bj(V:Nat->Value)(i:Nat)(v:Value):Nat->Value:=λj=>if j=i then v else V j
def Lf(ops:Array Oper)(L:Nat->Bool):Prop:=(∀j o,ops[j]?=some o->L j=true->∀k∈ahead o,L k=true)/\∀j,L j=true->j<ops.size
def Qh(P:Program)(ops:Array Oper)(h:Act)(I:(Nat->Bool)->(Nat->Value)->World->Prop)(i:Nat)(o:Oper):Prop :=
 ∀(L:Nat->Bool) (V:Nat->Value) (w:World),L i=false->Lf ops L->(∀k∈ahead o,L k=true)->I L V w ->
  if wants V o=true then mm P (λv w'=>I (dw L i) (bj V i v) w') ((execOp (tj ops h V o) o).run P w)else I (dw L i) (bj V i undef) w
def bF(V:Nat->Value):List Oper->Nat->Act->Act
 | [],_,a=>a
 | o :: r,k,a=>bF V r (k+1) (a.put o.dst (V k))
structure Inv(ops:Array Oper)(a0:Act)(I:(Nat->Bool)->(Nat->Value)->World->Prop)(L:Array Bool)(a:Act)(w:World):Prop where
 size:L.size=ops.size
 closed:∀j o,ops[j]?=some o->L.getD j false=true->∀k∈ahead o,L.getD k false=true
 Eg:a.tmps.size=a0.tmps.size
 Lv:a.defers=a0.defers
 rZ:∃V:Nat->Value,(∀j d,L.getD j false=true->oH ops j=some d->a.tmps.getD d undef=V j) /\
  (∀t,(∀j,L.getD j false=true->oH ops j≠some t)->a.tmps.getD t undef=a0.tmps.getD t undef)/\I (λj=>L.getD j false) V w
theorem EP{ops:Array Oper}{n:Nat}(h:o8 ops n=true){i:Nat}{o:Oper}(H:ops[i]?=some o) :
 (∀j∈ahead o,j<i)/\(∀cs b,o.op≠.select cs b)/\(∀d,o.dst=some d->d<n/\∀j p,ops[j]?=some p->j≠i->p.dst≠some d) /\
 (∀j C,o.guard=some (j,C)->j∈ahead o/\∃d,oH ops j=some d) /\
 (∀t∈o.looksAt ops,∀j p,ops[j]?=some p->p.dst=some t->j≠i/\(j∈ahead o∨i∈ahead p)):=by
 have y:∀ {j:Nat} {p:Oper},ops[j]?=some p->(p,j)∈ops.toList.zipIdx:=λ{j p} hj=>List.mem_zipIdx_iff_getElem?.2 vT
 have h1:=List.all_eq_true.1 h _ (y H)
 simp only[cz]at h1
 obtain⟨⟨⟨⟨h1,B⟩,u⟩,s⟩,D⟩:=h1
 refine⟨λj hj=>aee,?_,?_,?_,?_⟩
 ·intro cs b G;rw[G]at B;cases B
 ·intro d A;rw[A]at u;simp only[cz,decide_eq_true_eq]at u;refine⟨u.1,λj p hj F=>?_⟩;have:=List.all_eq_true.1 u.2 _ (y hj);simp only[Bool.or_eq_true,beq_iff_eq,bne_iff_ne]at this;exact this.resolve_left F
 ·intro j C hg;rw[hg]at s;simp only[cz,List.contains_iff_mem]at s;exact⟨s.1,Option.isSome_iff_exists.1 s.2⟩
 ·intro t E j p hj A;have:=List.all_eq_true.1 (List.all_eq_true.1 D t E) _ (y hj);simp only[A,Bool.or_eq_true,cz,bne_iff_ne,List.contains_iff_mem]at this;rcases this with h|h
  ·exact absurd rfl h
  ·exact h
theorem Hx{ops:Array Oper}{j:Nat}{d:Tmp}(h:oH ops j=some d):∃p,ops[j]?=some p/\p.dst=some d:=by
 unfold oH at h
 cases hp:ops[j]? with
 | none=>rw[hp]at h;cases h
 | some p=>rw[hp]at h;exact⟨p,rfl,h⟩
theorem acr{o:Oper}{k:Nat}:k∈ahead o ↔ ∃e∈o.after,Region.binds .any e=true/\e.on=k:=by simp[ahead,and_assoc]
theorem atX{ops:Array Oper}{s a:Act}{L:Array Bool}{V:Nat->Value}{i:Nat}{o:Oper}
 (M:o8 ops s.tmps.size=true) (F:ops[i]?=some o) (G:L.getD i false=false) (I:∀k∈ahead o,L.getD k false=true)
 (closed:∀j o,ops[j]?=some o->L.getD j false=true->∀k∈ahead o,L.getD k false=true)
 (J:∀j d,L.getD j false=true->oH ops j=some d->a.tmps.getD d undef=V j)
 (D:∀t,(∀j,L.getD j false=true->oH ops j≠some t)->a.tmps.getD t undef=s.tmps.getD t undef) :
 ∀x∈o.op.operands,a.eval x=tj ops s V o x:=by
 obtain⟨O,R,P,N,H⟩:=EP M F
 intro x B
 cases x with
 | tmp t =>
  have E:t∈o.looksAt ops:=List.mem_append_left _ (List.mem_filterMap.2 ⟨.tmp t,by simpa using B,rfl⟩)
  show a.tmps.getD t undef=tj ops s V o (.tmp t)
  cases hf:(ahead o).find? (λj=>oH ops j==some t)with
  | some j => have u:=List.find?_some hf;have hm:=List.mem_of_find?_eq_some hf;simp only[beq_iff_eq]at u;simp only[tj,hf];exact J j t (I j hm) u
  | none =>
   simp only[tj,hf];refine D t λj u A=>?_
   obtain⟨p,y,C⟩:=Hx A;obtain⟨Q,h⟩:=H t E j p y C;rcases h with h|h
   ·have:=List.find?_eq_none.1 hf j h;simp[A]at this
   ·have:=closed j p y u i h;rw[G]at this;cases this
 | const v=>rfl
 | global g=>rfl
 | func f=>rfl
theorem atY{ops:Array Oper}{s a:Act}{L:Array Bool}{V:Nat->Value}{i:Nat}{o:Oper}
 (t:o8 ops s.tmps.size=true) (E:ops[i]?=some o) (I:∀k∈ahead o,L.getD k false=true) (B:a.tmps.size=s.tmps.size)
 (J:∀j d,L.getD j false=true->oH ops j=some d->a.tmps.getD d undef=V j) :
 Region.wanted o (yielded ops a.tmps)=wants V o:=by
 obtain⟨N,Q,O,C,P⟩:=EP t E
 unfold Region.wanted wants
 cases hg:o.guard with
 | none=>rfl
 | some u =>
  obtain⟨j,D⟩:=u;obtain⟨M,d,h⟩:=C j D hg;have G:=J j d (I j M) h;obtain⟨p,A,y⟩:=Hx h;have F:d<a.tmps.size:=by rw[B];exact ((EP t A).2.2.1 d y).1
  have H:yielded ops a.tmps j=match V j with | .bool b=>some b|_=>none:=by
   unfold yielded;unfold oH at h;rw[h];have:a.tmps[d]?=some (V j):=by rw[<- G];simp[F]
   show (match a.tmps[d]? with|some (.bool b)=>some b|_=>none)=_;rw[this];cases V j <;> rfl
  simp only[H];cases V j <;> simp
theorem aef{ops:Array Oper}{A a:Act}{I:(Nat->Bool)->(Nat->Value)->World->Prop}{L:Array Bool}{w':World}{V:Nat->Value}{i:Nat}{o:Oper}{v:Value}
 (U:o8 ops A.tmps.size=true) (B:ops[i]?=some o) (Y:L.getD i false=false) (R:∀k∈ahead o,L.getD k false=true)
 (F:L.size=ops.size) (closed:∀j o,ops[j]?=some o->L.getD j false=true->∀k∈ahead o,L.getD k false=true)
 (Eg:a.tmps.size=A.tmps.size) (Lv:a.defers=A.defers)
 (S:∀j d,L.getD j false=true->oH ops j=some d->a.tmps.getD d undef=V j)
 (M:∀t,(∀j,L.getD j false=true->oH ops j≠some t)->a.tmps.getD t undef=A.tmps.getD t undef)
 (Q:I (dw (λj=>L.getD j false) i) (bj V i v) w') :
 Inv ops A I (L.setIfInBounds i true) (a.put o.dst v) w':=by
 obtain⟨X,k2,H,W,Z⟩:=EP U B
 have N:i<L.size:=by rw[F];exact (Array.getElem?_eq_some_iff.1 B).1
 have E:∀j,(L.setIfInBounds i true).getD j false=dw (λj=>L.getD j false) i j:=by
  intro j;unfold dw;by_cases s:j=i
  ·subst s;simp[N]
  ·rw[if_neg s,getD_set_ne _ (λe=>s e.symm)]
 have J:∀j,(L.setIfInBounds i true).getD j false=true->j=i∨L.getD j false=true:=by
  intro j s;rw[E j]at s;unfold dw at s;by_cases y:j=i
  ·exact .inl y
  ·rw[if_neg y]at s;exact .inr s
 refine⟨by simpa using F,?_,?_,?_,⟨λj=>if j=i then v else V j,?_,?_,?_⟩⟩
 ·intro j p u s k hk;rcases J j s with rfl|s
  ·rw[B]at u;injection u with u;subst u;exact getD_set_true (R k hk)
  ·exact getD_set_true (closed j p u s k hk)
 ·rw[<- Eg];cases o.dst <;> simp[Act.put]
 ·rw[<- Lv];cases o.dst <;> rfl
 ·intro j d s D;by_cases y:j=i
  ·subst y;obtain⟨p,u,C⟩:=Hx D;rw[B]at u;injection u with u;subst u;have:=(H d C).1;rw[C];simp[Act.put,Eg,this]
  ·show _=if j=i then v else V j
   rw[if_neg y];have O:=(J j s).resolve_left y;rw[<- S j d O D];cases ho:o.dst with
   | none=>rfl
   | some e =>
    obtain⟨p,u,C⟩:=Hx D;have hne:e≠d:=by rintro rfl;exact (H e ho).2 j p u y C
    exact UR
 ·intro t G;have T:oH ops i≠some t:=G i (by rw[E];simp[dw]);rw[<- M t λj s=>G j (getD_set_true s)];cases ho:o.dst with
  | none=>rfl
  | some e =>
   have hne:e≠t:=by rintro rfl;exact T (by unfold oH;rw[B];exact ho)
   exact UR
 ·have:(λj=>(L.setIfInBounds i true).getD j false)=dw (λj=>L.getD j false) i:=funext E;rw[this];exact Q
theorem atZ{ops:Array Oper}{u a:Act}{I:(Nat->Bool)->(Nat->Value)->World->Prop}{L:Array Bool}{w:World}{i:Nat}
 (A:o8 ops u.tmps.size=true) (T:∀i o,ops[i]?=some o->Qh P ops u I i o)
 (h:Inv ops u I L a w) (H:i∈Region.ready .any ops L):wpOp P ops Q i (Inv ops u I (L.setIfInBounds i true)) a w:=by
 obtain⟨ru,o,s,O⟩:=mem_ready.1 H
 have E:=h.size
 have hlt:i<L.size:=by rw[E];exact (Array.getElem?_eq_some_iff.1 s).1
 have B:L.getD i false=false:=US
 have y:∀k∈ahead o,L.getD k false=true:=by intro k hk;obtain⟨e,R,hb,rfl⟩:=acr.1 hk;exact O e R hb
 obtain⟨V,C,D,N⟩:=h.rZ
 have X:=(EP A s).2.1
 have U:=atX A s B y h.closed C D
 have M:=atY A s y h.Eg C
 have J:execOp a.eval o=execOp (tj ops u V o) o:=execOp_congr o X U
 have W:∀j,L.getD j false=true->j<ops.size:=by
  intro j Y;by_cases S:j<L.size
  ·omega
  ·simp[S]at Y
 have t:=T i o s (λj=>L.getD j false) V w B ⟨h.closed,W⟩ y N
 unfold wpOp
 simp only[s]
 rw[M]
 by_cases G:wants V o=true
 ·rw[if_pos G]at t⊢;refine .inl ?_;unfold Oper.wp;rw[J];generalize (execOp (tj ops u V o) o).run P w=r at *;have put:∀v w',I (dw (λj=>L.getD j false) i) (bj V i v) w'->Inv ops u I (L.setIfInBounds i true) (a.put o.dst v) w':=λv w' F =>
   aef A s B y E h.closed h.Eg h.Lv C D F
  cases r with
  | ok n w' =>
   cases n <;> simp only[mm]at t <;> simp only[Oper.upon]
   case value v=>exact put _ _ t
   case skip=>exact put _ _ t
   case enter f args => refine t.mono ?_;rintro e Z⟨v,rfl,F⟩;exact put _ _ F
  | halt x w'=>simp only[mm]at t
 ·rw[if_neg G]at t⊢;exact aef A s B y E h.closed h.Eg h.Lv C D t
theorem asf(V:Nat->Value):∀(l:List Oper) (k:Nat) (a:Act),(bF V l k a).tmps.size=a.tmps.size/\(bF V l k a).defers=a.defers /\
 (∀t,(∀(j:Nat) (o:Oper),l[j]?=some o->o.dst≠some t)->(bF V l k a).tmps.getD t undef=a.tmps.getD t undef) /\
 (∀(j:Nat) (o:Oper) (t:Tmp),l[j]?=some o->o.dst=some t->t<a.tmps.size->(∀(i:Nat) (o':Oper),l[i]?=some o'->i≠j->o'.dst≠some t)->(bF V l k a).tmps.getD t undef=V (k+j)):=by
 intro l
 induction l with
 | nil=>intro k a;exact⟨rfl,rfl,λ_ _=>rfl,λj o t h=>yQ⟩
 | cons o r E =>
  intro k a;obtain⟨I,H,u,G⟩:=E (k+1) (a.put o.dst (V k));have B:(a.put o.dst (V k)).tmps.size=a.tmps.size:=by cases o.dst <;> simp[Act.put]
  refine⟨I.trans B,H.trans (by cases o.dst <;> rfl),λt y=>?_,λj p t hj C s A=>?_⟩
  ·show (bF V r (k+1) (a.put o.dst (V k))).tmps.getD t undef=_;rw[u t λj p hj=>y (j+1) p vT];have D:=y 0 o aj;cases ho:o.dst with
   | none=>rfl
   | some e =>
    have hne:e≠t:=by rintro rfl;exact D ho
    exact UR
  ·show (bF V r (k+1) (a.put o.dst (V k))).tmps.getD t undef=_;cases j with
   | zero => simp at hj;subst hj;rw[u t λj p hj=>A (j+1) p vT af,C];simp[Act.put,s]
   | succ j =>
    have:=G j p t vT C (by rw[B];exact s) λi o' F hne=>A (i+1) o' (by simpa using F) af
    rw[this];congr 1;omega
theorem aqM{ops:Array Oper}{n:Nat}{L:Array Bool}(B:o8 ops n=true)(C:L.size=ops.size)(t:Region.ready .any ops L=[]):∀i,i<ops.size->L.getD i false=true:=by
 intro i
 induction i using Nat.strongRecOn with
 | _ i u =>
  intro A;by_cases h:L.getD i false=true
  ·exact h
  ·exfalso;have s:ops[i]?=some ops[i]:=by simp[A]
   have:i∈Region.ready .any ops L:=by
    refine mem_ready.2 ⟨?_,_,s,λe y hb=>?_⟩
    ·have j:i<L.size:=af;simpa [j]using h
    ·have hk:e.on∈ahead ops[i]:=acr.2 ⟨e,y,hb,rfl⟩;have j:=(EP B s).1 _ hk;exact u _ j af
   rw[t]at this;cases this
theorem avt{ops:Array Oper}{s:Act}{I:(Nat->Bool)->(Nat->Value)->World->Prop}
 (J:o8 ops s.tmps.size=true) (owed:∀i o,ops[i]?=some o->Qh P ops s I i o)
 (fin:∀(V:Nat->Value) (w:World),I (λj=>decide (j<ops.size)) V w->Q .normal (bF V ops.toList 0 s) w) :
 ∀(y:Nat) (L:Array Bool) (a:Act) (w:World),L.toList.count false<=y->Inv ops s I L a w->wpAny P .any ops Q y L a w:=by
 have done:∀(L:Array Bool) (a:Act) (w:World),Inv ops s I L a w->Region.ready .any ops L=[]->Q .normal a w:=by
  intro L a w h A;have R:=aqM J h.size A;obtain⟨V,h1,U,N⟩:=h.rZ;have hLf:(λj=>L.getD j false)=λj=>decide (j<ops.size):=by
   funext j;by_cases hj:j<ops.size
   ·rw[R j hj];simp[hj]
   ·have:¬j<L.size:=by rw[h.size];exact hj
    simp[hj,this]
  rw[hLf]at N;have T:=fin V w N;obtain⟨p1,p2,p3,W⟩:=asf V ops.toList 0 s;have ha:a=bF V ops.toList 0 s:=by
   have e2:a.defers=(bF V ops.toList 0 s).defers:=h.Lv.trans p2.symm;have F:a.tmps=(bF V ops.toList 0 s).tmps:=by
    apply Array.ext
    ·rw[h.Eg,p1]
    ·intro t O Y;have g1:a.tmps[t]=a.tmps.getD t undef:=by simp[O]
     have g2:(bF V ops.toList 0 s).tmps[t]=(bF V ops.toList 0 s).tmps.getD t undef:=by simp[Y]
     rw[g1,g2];by_cases E:∃j,j<ops.size/\oH ops j=some t
     ·obtain⟨j,hj,u⟩:=E;obtain⟨p,B,M⟩:=Hx u;rw[h1 j t (R j hj) u];have h5:=W j p t (by simpa using B) M (by rw[<- h.Eg];exact O) λX o' H Z hd'=>(EP J B).2.2.1 t M |>.2 X o' (by simpa using H) Z hd'
      rw[h5,fP]
     ·rw[U t λj hj u=>E ⟨j,?_,u⟩,p3 t λj o hj u=>E ⟨j,?_,?_⟩]
      ·have:=(List.getElem?_eq_some_iff.1 hj).1;simpa using this
      ·unfold oH;have H:ops[j]?=some o:=vT;rw[H];exact u
      ·obtain⟨p,B,_⟩:=Hx u;exact (Array.getElem?_eq_some_iff.1 B).1
   calc a=⟨a.tmps,a.defers⟩:=rfl
    _=_:=by rw[F,e2]
  rw[ha];exact T
 intro y
 induction y with
 | zero =>
  intro L a w akf h;have A:Region.ready .any ops L=[]:=by
   apply List.eq_nil_iff_forall_not_mem.2;intro i C;obtain⟨ru,o,G,_⟩:=mem_ready.1 C;have hlt:i<L.size:=by rw[h.size];exact (Array.getElem?_eq_some_iff.1 G).1
   have D:L[i]=false:=US;have:false∈L.toList:=by rw[<- D];simp
   have:=List.count_pos_iff.2 this;omega
  exact⟨A,done L a w h A⟩
 | succ y ih =>
  intro L a w akf h;refine⟨done L a w h,λi C=>?_⟩;refine wpOp_mono (λa' w' S=>ih _ a' w' ?_ S) (atZ J owed h C);obtain⟨ru,o,G,_⟩:=mem_ready.1 C;have hlt:i<L.size:=by rw[h.size];exact (Array.getElem?_eq_some_iff.1 G).1
  have D:L[i]=false:=US;have hpos:0<L.toList.count false:=List.count_pos_iff.2 (by rw[<- D];simp);rw[Array.toList_setIfInBounds,List.count_set (by simpa using hlt)];have F:(L.toList[i]'(by simpa using hlt)==false)=true:=by simp[D]
  rw[if_pos F,if_neg au];omega
theorem EO{id:Nat}{ops:Array Oper}{t:Act}{w:World}(I:(Nat->Bool)->(Nat->Value)->World->Prop)
 (n:Nat) (hn:t.tmps.size=n) (hm:P.follows .mixedOrders=true) (A:o8 ops n=true)
 (C:I (λ_=>false) (λ_=>undef) w.drew) (B:∀i o,ops[i]?=some o->Qh P ops t I i o)
 (fin:∀(V:Nat->Value) (w:World),I (λj=>decide (j<ops.size)) V w->Q .normal (bF V ops.toList 0 t) w) :
 (Code.region id ops true).wp P Q t w:=by
 subst hn
 refine wp_region_any hm (avt A B fin _ _ _ _ ?_ ⟨aj,?_,rfl,rfl,⟨λ_=>undef,?_,λ_ _=>rfl,?_⟩⟩)
 ·refine bq List.count_le_length ?_;simp
 ·intro j o y u;have s:j<ops.size:=(Array.getElem?_eq_some_iff.1 y).1;simp[s]at u
 ·intro j d u D;by_cases s:j<ops.size <;> simp[s]at u
 ·have:(λj=>(Array.replicate ops.size false).getD j false)=λ_=>false:=by funext j;by_cases s:j<ops.size <;> simp[s]
  rw[this];exact C
def tab(l:List (Value->World->Prop))(i:Nat)(v:Value)(w:World):Prop:=(l.getD i (λ_ _=>True)) v w
theorem aE(f:Value->World->Prop)(l:List (Value->World->Prop))(v:Value)(w:World):tab (f :: l) 0 v w=f v w:=rfl
theorem aF(f:Value->World->Prop)(l:List (Value->World->Prop))(n:Nat)(v:Value)(w:World):tab (f :: l) (n+1) v w=tab l n v w:=rfl
theorem abL{Le:World->World->Prop}{l:List (Value->World->Prop)}(h:∀f∈l,∀v w w',f v w->Le w w'->f v w'):∀j v w w',tab l j v w->Le w w'->tab l j v w':=by
 intro j v w w' t s;unfold tab at *;by_cases i:j<l.length
 ·simp only[List.getD_eq_getElem?_getD,List.getElem?_eq_getElem i,Option.getD_some]at *;exact h _ (bW i) v w w' t s
 ·simp only[List.getD_eq_getElem?_getD,List.getElem?_eq_none (Nat.le_of_not_lt i),Option.getD_none]
def aw(rd:List (Nat×Nat))(h:Act)(V:Nat->Value):Operand->Value
 | .tmp t=>match rd.lookup t with
  | some j=>V j
  | none=>h.tmps.getD t undef
 | x=>h.eval x
def aL(V:Nat->Value):Option (Nat×Bool)->Bool
 | none=>true
 | some (j,want)=>match V j with
  | .bool b=>b==want
  | _=>false
def ay (op:Op) (ty:TypeId):Oper:={ dst:=none,op:=op,type:=ty,pos:="",after:=#[],guard:=none }
def ajQ(P:Program)(ops:Array Oper)(h:Act)(I:(Nat->Bool)->(Nat->Value)->World->Prop)(k:Nat)(op:Op)(ty:TypeId)(gd:Option (Nat×Bool))(al:List Nat)(rd:List (Nat×Nat)):Prop :=
 ∀(L:Nat->Bool) (V:Nat->Value) (w:World),L k=false->Lf ops L->(∀j∈al,L j=true)->I L V w ->
  if aL V gd=true then mm P (λv w'=>I (dw L k) (bj V k v) w') ((execOp (aw rd h V) (ay op ty)).run P w)else I (dw L k) (bj V k undef) w
def Fq(P:Program)(ops:Array Oper)(h:Act)(I:(Nat->Bool)->(Nat->Value)->World->Prop):Nat->List Oper->List (List Nat×List (Nat×Nat))->Prop
 | _,[],_=>True
 | _,_ :: _,[]=>False
 | k,o :: r,x :: xs=>ajQ P ops h I k o.op o.type o.guard x.1 x.2/\Fq P ops h I (k+1) r xs
def qP(ops:Array Oper)(h:List (List Nat×List (Nat×Nat))):Bool :=
 ops.toList.zipIdx.all λx=>match h[x.2]? with
  | none=>false
  | some (al,rd)=>al.all (λj=>(ahead x.1).contains j) &&
   (match x.1.op with | .select ..=>false|_=>true) &&
   (x.1.op.operands.toList.all λy=>match y with
    | .tmp t=>(ahead x.1).find? (λj=>oH ops j==some t)==rd.lookup t
    | _=>true)
theorem Ts(ρ:Operand->Value)(o:Oper):execOp ρ o=execOp ρ (ay o.op o.type):=by
 cases o with
 | mk s op h pos j i=>cases op <;> rfl
theorem Oo{ops:Array Oper}{s:Act}{I:(Nat->Bool)->(Nat->Value)->World->Prop}(u:List (List Nat×List (Nat×Nat)))
 (Q:qP ops u=true) (h:Fq P ops s I 0 ops.toList u):∀i o,ops[i]?=some o->Qh P ops s I i o:=by
 have key:∀(l:List Oper) (k:Nat) (q:List (List Nat×List (Nat×Nat))),Fq P ops s I k l q->∀(i:Nat) (o:Oper),l[i]?=some o->∃x,q[i]?=some x/\ajQ P ops s I (k+i) o.op o.type o.guard x.1 x.2:=by
  intro l
  induction l with
  | nil=>intro k q _ i o hi;simp at hi
  | cons p r E =>
   intro k q hk i o hi
   cases q with
   | nil=>exact False.elim hk
   | cons x xs =>
    cases i with
    | zero=>simp at hi;subst hi;exact⟨x,rfl,hk.1⟩
    | succ i => obtain⟨y,hy,A⟩:=E (k+1) xs hk.2 i o Bc;exact⟨y,Kr,by rwa [show k+(i+1)=k+1+i by omega]⟩
 intro i o hi
 obtain⟨⟨al,rd⟩,C,A⟩:=key _ 0 u h i o Bc
 rw[fP]at A
 have h1:=List.all_eq_true.1 Q (o,i) (List.mem_zipIdx_iff_getElem?.2 Bc)
 simp only[C,cz]at h1
 obtain⟨⟨h1,B⟩,N⟩:=h1
 intro L V w D J H F
 have R:∀j∈al,j∈ahead o:=λj hj=>aee
 have O:=A L V w D J (λj hj=>H j (R j hj)) F
 have M:wants V o=aL V o.guard:=by unfold wants aL;rfl
 have G:execOp (tj ops s V o) o=execOp (aw rd s V) (ay o.op o.type):=by
  rw[<- Ts];refine execOp_congr o (λcs b e=>by rw[e]at B;cases B) λy hy=>?_
  have h4:=List.all_eq_true.1 N y Kr;exact aeg
 rw[M,G]
 exact O
def aS(P:Program)(φ:Value->World->Prop)(w:World):Result Next->Prop
 | .ok (.value v) w'=>φ v w'/\Below w.heap.size w w'
 | .ok .skip w'=>φ undef w'/\Below w.heap.size w w'
 | .ok (.enter f args) w'=>Calls P f args w' λe h=>∃v,e=.returned v/\φ v h/\Below w.heap.size w h
 | _=>False
def XE(P:Program)(h:Act)(C:World->Prop)(φ:Nat->Value->World->Prop)(k:Nat)(op:Op)(ty:TypeId)(gd:Option (Nat×Bool))(al:List Nat)(rd:List (Nat×Nat)):Prop :=
 ∀(V:Nat->Value) (w:World),C w->(∀j∈al,φ j (V j) w)->if aL V gd=true then aS P (φ k) w ((execOp (aw rd h V) (ay op ty)).run P w)else φ k undef w
def mS(P:Program)(h:Act)(C:World->Prop)(φ:Nat->Value->World->Prop):Nat->List Oper->List (List Nat×List (Nat×Nat))->Prop
 | _,[],_=>True
 | _,_ :: _,[]=>False
 | k,o :: r,x :: xs=>XE P h C φ k o.op o.type o.guard x.1 x.2/\mS P h C φ (k+1) r xs
def XF(C:World->Prop)(l:List (Value->World->Prop))(L:Nat->Bool)(V:Nat->Value)(w:World):Prop:=C w/\∀j,L j=true->tab l j (V j) w
theorem yO{L:Nat->Bool}{i j:Nat}(h:dw L i j=true):j=i∨L j=true:=by
 unfold dw at h;by_cases s:j=i
 ·exact .inl s
 ·rw[if_neg s]at h;exact .inr h
theorem mS.toP{ops:Array Oper}{a0:Act}{C:World->Prop}{t:List (Value->World->Prop)}(hg:∀W u,C W->Below W.heap.size W u->C u)
 (st:∀f∈t,∀v w w',f v w->Below w.heap.size w w'->f v w') :
 ∀(l:List Oper) (k:Nat) (i:List (List Nat×List (Nat×Nat))),mS P a0 C (tab t) k l i->Fq P ops a0 (XF C t) k l i:=by
 intro l
 induction l with
 | nil=>intro k i _;exact trivial
 | cons o r y =>
  intro k i h
  cases i with
  | nil=>exact False.elim h
  | cons x xs =>
   refine⟨?_,y _ _ h.2⟩;intro L V w _ _ A ⟨s,hp⟩;have ob:=h.1 V w s λj hj=>hp j (A j hj)
   have next:∀v w',tab t k v w'->Below w.heap.size w w'->XF C t (dw L k) (bj V k v) w':=by intro v w' hv hb;refine⟨hg _ _ s hb,λj hj=>?_⟩;exact aeh
   exact aei
theorem S6{id:Nat}{ops:Array Oper}{i:Act}{w:World}(C:World->Prop)(l:List (Value->World->Prop))(s:List (List Nat×List (Nat×Nat)))
 (n:Nat) (hn:i.tmps.size=n) (hm:P.follows .mixedOrders=true) (B:o8 ops n=true) (A:qP ops s=true)
 (hg:∀W t,C W->Below W.heap.size W t->C t) (y:C w.drew)
 (st:∀f∈l,∀v w w',f v w->Below w.heap.size w w'->f v w')
 (u:mS P i C (tab l) 0 ops.toList s)
 (fin:∀(V:Nat->Value) (w:World),C w->(∀j,j<ops.size->tab l j (V j) w)->Q .normal (bF V ops.toList 0 i) w) :
 (Code.region id ops true).wp P Q i w :=
 EO (XF C l) n hn hm B ⟨y,λ_ h=>vR⟩ (Oo s A (mS.toP hg st _ _ _ u)) λV w h=>fin V w h.1 λj hj=>h.2 j vT
def Qi(P:Program)(C i:World->Prop)(Le:World->World->Prop)(φ:Value->World->Prop)(w:World):Result Next->Prop
 | .ok (.value v) w'=>φ v w'/\C w'/\i w'/\Le w w'
 | .ok .skip w'=>φ undef w'/\C w'/\i w'/\Le w w'
 | .ok (.enter f args) w'=>Calls P f args w' λe h=>∃v,e=.returned v/\φ v h/\C h/\i h/\Le w h
 | _=>False
def awX(P:Program)(i:Act)(C h s:World->Prop)(Le:World->World->Prop)(φ:Nat->Value->World->Prop)(k:Nat)(op:Op)(ty:TypeId)(gd:Option (Nat×Bool))(al:List Nat)(rd:List (Nat×Nat)):Prop :=
 gd=none/\∀(V:Nat->Value) (w:World),C w->h w->(∀j∈al,φ j (V j) w)->Qi P C s Le (φ k) w ((execOp (aw rd i V) (ay op ty)).run P w)
def nZ(P:Program)(h:Act)(C i j:World->Prop)(Le:World->World->Prop)(φ:Nat->Value->World->Prop)(z:Nat):Nat->List Oper->List (List Nat×List (Nat×Nat))->Prop
 | _,[],_=>True
 | _,_ :: _,[]=>False
 | k,o :: r,x :: xs=>(if k=z then awX P h C i j Le φ k o.op o.type o.guard x.1 x.2 else XE P h C φ k o.op o.type o.guard x.1 x.2)/\nZ P h C i j Le φ z (k+1) r xs
def DJ(C h i:World->Prop)(l:List (Value->World->Prop))(z:Nat)(L:Nat->Bool)(V:Nat->Value)(w:World):Prop:=C w/\(if L z=true then i w else h w)/\∀j,L j=true->tab l j (V j) w
def ag(c:Value)(v:Value)(_:World):Prop:=v=c
def xK(_:Value)(_:World):Prop:=True
def sl(l:List UInt8)(v:Value)(w:World):Prop:=∃A c,v=.slice A l.length c/\Reads w w.heap.size 1 A l.length (dy l)
theorem jN(c:Value):∀v w w',ag c v w->Below w.heap.size w w'->ag c v w':=λ_ _ _ h _=>h
theorem mz:∀v w w',xK v w->Below w.heap.size w w'->xK v w':=λ_ _ _ h _=>h
theorem iQ(l:List UInt8):∀v w w',sl l v w->Below w.heap.size w w'->sl l v w':=by rintro v w w'⟨A,c,h,i⟩ hb;exact⟨A,c,h,(i.below hb (aG _)).more hb.size⟩
theorem eN{w:World}{base:Nat}{e:TypeId}{v:Value}{l:List UInt8}(h:Own w base e v l):sl l v w:=by obtain⟨A,c,i,j⟩:=h.slice;exact⟨A,c,i,j⟩
theorem awY{P:Program}{w:World}{v:Value}{l:List UInt8}(i j e:TypeId)(u:P.underlying i=some (.slice e))(t:P.underlying e=some (.int .u8))(y:P.underlying j=some .string)
 (h:sl l v w):(convert i j v).run P w=.ok (.string ⟨l.toArray⟩) w:=by
 obtain⟨A,c,rfl,s⟩:=h
 exact adR w i j e u t y _ A _ c l s
end
def mo(x:bh):Bool:=rU x.1&&iU x.2.1 x.2.2.1 x.2.2.2
def kZ(a b:ByteArray):Bool:=Op.bytesLess a.toList b.toList
theorem aej:∀x y:List UInt8,Op.bytesLess x y=decide (x<y)
 | [],[]=>UT
 | _ :: _,[]=>UT
 | [],_ :: _=>UT
 | a :: x,b :: y=>by rw[Op.bytesLess,aej x y];simp only[List.cons_lt_cons_iff];by_cases j:a<b <;> by_cases i:a=b <;> simp[j,i]
theorem Ks(a b:ByteArray):kZ a b=true↔dh a<dh b:=by unfold kZ;rw[aej,ByteArray.toList_eq,ByteArray.toList_eq];simp
theorem UU{a b:ByteArray}(h:dh a=dh b):a=b:=by cases a;cases b;simp only[ByteArray.mk.injEq];exact Array.toList_inj.1 h
theorem Kt(a b:ByteArray):(a.toList==b.toList)=decide (a=b):=by
 rw[ByteArray.toList_eq,ByteArray.toList_eq];by_cases h:a=b
 ·subst h;simp
 ·rw[beq_eq_false_iff_ne.2 (λe=>h (UU e))];simp[h]
theorem TD(a:ByteArray):kZ a a=false:=by rw[Bool.eq_false_iff,Ne,Ks];exact List.lt_irrefl _
theorem acs{a b c:ByteArray}(h:kZ a b=true)(k:kZ b c=true):kZ a c=true:=by rw[Ks]at *;exact List.lt_trans h k
theorem aek(a b:ByteArray):(Op.bytesLess a.toList b.toList||a.toList==b.toList)=!kZ b a:=by
 have j:Op.bytesLess a.toList b.toList=kZ a b:=rfl;rw[j,Kt];by_cases e:a=b
 ·subst e;simp[TD]
 ·cases h:kZ a b
  ·cases k:kZ b a
   ·exfalso;have i:¬dh a<dh b:=λx=>by rw[(Ks a b).2 x]at h;cases h
    have s:¬dh b<dh a:=λx=>by rw[(Ks b a).2 x]at k;cases k
    exact e (UU (List.le_antisymm (List.not_lt.1 s) (List.not_lt.1 i)))
   ·simp[e]
  ·cases k:kZ b a
   ·simp
   ·have:=acs h k;rw[TD]at this;cases this
def Bs:Option ByteArray->List bh->Option ByteArray
 | p,[]=>p
 | _,x :: r=>Bs (some x.1) r
def behind(p:Option ByteArray)(s:ByteArray):Bool:=match p with|none=>true|some y=>kZ y s
def jC:Option ByteArray->List bh->Bool
 | _,[]=>true
 | p,x :: r=>mo x&&behind p x.1&&jC (some x.1) r
def fK(l:List bh):Bool:=decide (1<=l.length)&&decide (l.length<=16)&&jC none l
def jm(l:List bh):Int:=if fK l then 0 else 40
theorem ao4(p:Option ByteArray)(a b:List bh):Bs p (a++b)=Bs (Bs p a) b:=by
 induction a generalizing p with
 | nil=>rfl
 | cons x a h=>simp only[aM,Bs];exact h _
theorem abM(p:Option ByteArray)(a b:List bh):jC p (a++b)=(jC p a&&jC (Bs p a) b):=by
 induction a generalizing p with
 | nil=>simp[jC,Bs]
 | cons x a h=>simp only[aM,jC,Bs,h,Bool.and_assoc]
theorem aqN(l:List bh)(k:Nat)(h:k<l.length):Bs none (l.take (k+1))=some l[k].1:=by rw[gE h,ao4];rfl
theorem at0(l:List bh)(h:0<l.length):jC none (l.take 1)=mo l[0]:=by rw[gE h];simp[jC,behind]
theorem at1(l:List bh)(k:Nat)(h:k+1<l.length):jC none (l.take (k+1+1))=(jC none (l.take (k+1))&&(mo l[k+1]&&kZ (l[k]'af).1 l[k+1].1)):=by rw[gE h,abM,aqN l k af];simp[jC,behind]
theorem avu(l:List bh)(k:Nat)(h:jC none (l.take k)=false):jC none l=false:=by have:=abM none (l.take k) (l.drop k);rw[List.take_append_drop,h]at this;simpa using this
theorem avv(l:List bh)(k:Nat)(h:jC none (l.take k)=false):jm l=40:=by simp[jm,fK,avu l k h]
theorem at2(l:List bh)(j:1<=l.length)(i:l.length<=16)(h:jC none (l.take l.length)=true):jm l=0:=by rw[mC]at h;simp[jm,fK,h,j,i]
abbrev XP(x:bh):Value:=.agg #[.string x.1,.int .i64 x.2.1,.int .i64 x.2.2.1,.string x.2.2.2]
theorem OM(l:List bh)(k:Nat)(hk:k<l.length):∀j,(i:j<4)->(l.flatMap jQ)[k*4+j]?=some ((jQ l[k])[j]'i):=by intro j i;rw[List.flatMap_def,vK 4 _ OO k j pc i];simp[hk]
theorem at3(l:List bh):(l.flatMap jQ).length=l.length*4:=by rw[List.flatMap_def,AQ 4 _ OO];simp
theorem Reads.FG{w:World}{B n:Nat}{A:Option Addr}{l:List bh}(h:Reads w B 4 A n (l.flatMap jQ))(C:0<l.length) :
 ∃b i,A=some ⟨b,i,none⟩/\b<B/\∀k (hk:k<l.length),w.cell? ⟨b,i+k*4,none⟩=some (.string l[k].1)/\w.cell? ⟨b,i+k*4+1,none⟩=some (.int .i64 l[k].2.1) /\
  w.cell? ⟨b,i+k*4+2,none⟩=some (.int .i64 l[k].2.2.1)/\w.cell? ⟨b,i+k*4+3,none⟩=some (.string l[k].2.2.2):=by
 obtain⟨b,i,e,hb,j⟩:=h.2 (by rw[at3];omega)
 refine⟨b,i,e,hb,λk hk=>?_⟩
 have s:=j _ _ (OM l k hk 0 au)
 have t:=j _ _ (OM l k hk 1 au)
 have u:=j _ _ (OM l k hk 2 au)
 have y:=j _ _ (OM l k hk 3 au)
 simp only[Nat.add_zero,<- Nat.add_assoc]at s t u y
 exact⟨s,t,u,y⟩
theorem below_drewN{B:Nat}{w w':World}(h:Below B w w')(n:Nat):Below B w (w'.drewN n):=by
 induction n with
 | zero=>exact h
 | succ n i=>exact⟨h.os,h.tape,h.output,h.size,h.block⟩
def ik(l:List bh)(v:Value)(w:World):Prop:=∃A c,v=.slice A l.length c/\Reads w w.heap.size 4 A l.length (l.flatMap jQ)
theorem mR(l:List bh):∀v w w',ik l v w->Below w.heap.size w w'->ik l v w':=by exact ael
theorem str{w:World}{v:Value}{l:List UInt8}(h:sl l v w):(convert 42 9 v).run prog w=.ok (.string ⟨l.toArray⟩) w :=
 awY _ _ _ underlying42 underlying5 underlying9 h
def sk(l:List UInt8)(wr:Bool):bh×List UInt8×Bool :=
 ((⟨(aP 16 l wr).1.toArray⟩,(eQ (aP 16 l wr).2.1 (aP 16 l wr).2.2).1.1,(eQ (aP 16 l wr).2.1 (aP 16 l wr).2.2).1.2.1,⟨(eQ (aP 16 l wr).2.1 (aP 16 l wr).2.2).1.2.2.toArray⟩),(eQ (aP 16 l wr).2.1 (aP 16 l wr).2.2).2)
def fA:Nat->List UInt8->Bool->List bh×List UInt8×Bool
 | 0,l,wr=>([],l,wr)
 | k+1,l,wr=>((fA k l wr).1++[(sk (fA k l wr).2.1 (fA k l wr).2.2).1],(sk (fA k l wr).2.1 (fA k l wr).2.2).2)
def FH(b:List UInt8):List bh×List UInt8×Bool:=fA (aC b false).1 (aC b false).2.1 (aC b false).2.2
def r7(b:List UInt8):Option (List bh) :=
 if decide ((aC b false).1<=16)&&!(FH b).2.2&&(FH b).2.1.isEmpty&&fK (FH b).1 then some (FH b).1 else none
def xL(b:List UInt8):List bh:=(r7 b).getD []
def xM(b:List UInt8):Int:=if (r7 b).isSome then 0 else 40
theorem OP(l:List UInt8)(wr:Bool):(eQ l wr).2.1.length<=l.length:=by have h:=nW l wr;have j:=nW (aC l wr).2.1 (aC l wr).2.2;have i:=Dq 40 (aC (aC l wr).2.1 (aC l wr).2.2).2.1 (aC (aC l wr).2.1 (aC l wr).2.2).2.2;simp only[eQ];split <;> (simp only;omega)
theorem aem(l:List UInt8)(wr:Bool):bU (eQ l wr).1.1/\bU (eQ l wr).1.2.1:=by
 cases h:(eQ l wr).2.2
 ·obtain⟨_,t,_,i,s⟩:=Uh h;have:=(Ii t).1;exact⟨by unfold bU;omega,i,s⟩
 ·have:(eQ l wr).1=(0,0,[]):=by
   simp only[eQ]at h⊢;split at h
   ·rename_i j;rw[if_pos j]
   ·cases h
  rw[this];unfold bU;simp
theorem avw(l:List UInt8)(wr:Bool):(sk l wr).2.1.length<=l.length :=
 bq (OP _ _) (Dq 16 l wr)
theorem Ui(k:Nat)(l:List UInt8)(wr:Bool):(fA k l wr).2.1.length<=l.length/\(fA k l wr).1.length=k:=by
 induction k with
 | zero=>exact⟨aG _,rfl⟩
 | succ k h=>exact⟨bq (avw _ _) h.1,by simp[fA,h.2]⟩
theorem Oz(i:Int)(l:List UInt8)(wr:Bool):(aP i l wr).1.length<=i.toNat:=by
 unfold aP;split
 ·simp
 ·rename_i h;simp at h;simp;omega
theorem at4(k:Nat)(l:List UInt8)(wr:Bool):∀x∈(fA k l wr).1,(bU x.2.1/\bU x.2.2.1)/\x.1.size<=16:=by
 induction k with
 | zero=>simp[fA]
 | succ k i =>
  intro x h;rcases List.mem_append.1 h with h|h
  ·exact i x h
  ·simp only[List.mem_singleton]at h;subst h;exact⟨aem _ _,Oz 16 _ _⟩
theorem avx:(prog.info? 84).map (λi=>(i.zero,i.size,i.bytes))=some (some (.agg #[.string { data:=#[] },.int .i64 0,.int .i64 0,.string { data:=#[] }]),4,48):=by kernel_rfl
theorem TE:gJ prog 34 84 (.agg #[.string { data:=#[] },.int .i64 0,.int .i64 0,.string { data:=#[] }]) 4 48:=⟨underlying34,avx,rfl,au⟩
abbrev po(w:World)(base:Nat)(v:Value)(l:List bh):Prop:=w.ownsRow base 84 4 v l.length (l.flatMap jQ)
theorem po.slice{w:World}{base:Nat}{v:Value}{l:List bh}(h:po w base v l):∃A c,v=.slice A l.length c/\Reads w w.heap.size 4 A l.length (l.flatMap jQ)/\l.length<=c/\c<=maxLen:=by exact aen
theorem my{w:World}{base base':Nat}{e:TypeId}{size n:Nat}{v:Value}{xs:List Value}(hb:base<=base')(h:w.ownsRow base' e size v n xs):w.ownsRow base e size v n xs:=by exact adS
theorem fZ{w w':World}{base:Nat}{e:TypeId}{size n:Nat}{v:Value}{xs:List Value}(h:w.ownsRow base e size v n xs)(hb:Below w.heap.size w w'):w'.ownsRow base e size v n xs:=by exact adT
theorem Ku{w w':World}{base g:Nat}{e:TypeId}{size n:Nat}{v:Value}{xs:List Value}(h:w.ownsRow base e size v n xs)(hb:w.grownBy w' (some g))(hg:g<base):w'.ownsRow base e size v n xs :=
 World.ownsRow.kept h hb (.inr (by
  intro e;have:=(h.lt g e).1;omega))
theorem adf(x:bh):∀u∈jQ x,u.oneCell'=true:=by intro u h;simp at h;rcases h with rfl|rfl|rfl|rfl <;> rfl
theorem aeo{w:World}{base:Nat}{v:Value}{l:List bh}(h:po w base v l):ik l v w:=by obtain⟨A,c,rfl,i,_⟩:=h.slice;exact⟨A,c,rfl,i⟩
section
open Go Go.RowKit Go.ChangeShapes Go.WideShapes Go.ChangeAt
abbrev bc:=ByteArray×Int×Int×Int×ByteArray
abbrev dY(x:bc):List Value:=[.string x.1,.int .i64 x.2.1,.int .i64 x.2.2.1,.int .i64 x.2.2.2.1,.string x.2.2.2.2]
abbrev oN(x:bc):Value:=.agg #[.string x.1,.int .i64 x.2.1,.int .i64 x.2.2.1,.int .i64 x.2.2.2.1,.string x.2.2.2.2]
def iH(x:bc):Prop:=bU x.2.1/\bU x.2.2.1/\bU x.2.2.2.1
theorem Kv(l:List bc)(k:Nat)(hk:k<l.length):∀j,(i:j<5)->(l.flatMap dY)[k*5+j]?=some ((dY l[k])[j]'i):=by intro j i;rw[List.flatMap_def,vK 5 _ OO k j pc i];simp[hk]
theorem at5(l:List bc):(l.flatMap dY).length=l.length*5:=by rw[List.flatMap_def,AQ 5 _ OO];simp
theorem Reads.DW{w:World}{B n:Nat}{A:Option Addr}{l:List bc}(h:Reads w B 5 A n (l.flatMap dY))(D:0<l.length) :
 ∃b i,A=some ⟨b,i,none⟩/\b<B/\∀k (hk:k<l.length),w.cell? ⟨b,i+k*5,none⟩=some (.string l[k].1)/\w.cell? ⟨b,i+k*5+1,none⟩=some (.int .i64 l[k].2.1) /\
  w.cell? ⟨b,i+k*5+2,none⟩=some (.int .i64 l[k].2.2.1)/\w.cell? ⟨b,i+k*5+3,none⟩=some (.int .i64 l[k].2.2.2.1)/\w.cell? ⟨b,i+k*5+4,none⟩=some (.string l[k].2.2.2.2):=by
 obtain⟨b,i,e,hb,j⟩:=h.2 (by rw[at5];omega)
 refine⟨b,i,e,hb,λk hk=>?_⟩
 have s:=j _ _ (Kv l k hk 0 au)
 have u:=j _ _ (Kv l k hk 1 au)
 have y:=j _ _ (Kv l k hk 2 au)
 have C:=j _ _ (Kv l k hk 3 au)
 have t:=j _ _ (Kv l k hk 4 au)
 simp only[Nat.add_zero,<- Nat.add_assoc]at s u y C t
 exact⟨s,u,y,C,t⟩
def eJ(l:List bc)(v:Value)(w:World):Prop:=∃A c,v=.slice A l.length c/\Reads w w.heap.size 5 A l.length (l.flatMap dY)
theorem dB(l:List bc):∀v w w',eJ l v w->Below w.heap.size w w'->eJ l v w':=by exact ael
section
variable {H:Type} {enc:TypeId×Value->H} {w:World} {base:Nat} {r:Reach} {b0:Nat} {spare:Nat->Bool} {held:Bool} {v:Value} {d:DataW H} {p:List MemPlace}
theorem asg{cs:List Value}{I:Nat}{x:DataW H×List MemPlace}(h:DataW.trod enc prog w base spare held I 81 cs=some x):∃y:bc,cs=dY y/\iH y:=by
 obtain⟨xs,n,_,_,C,E,u⟩:=DataW.trod_struct underlying81 h
 have G:prog.cellsOf 81=5:=ak
 rw[G]at C
 match cs,C with
 | [c0,c1,c2,c3,c4],_ => have i:=u 0 _ rfl;have j:=u 1 _ rfl;have t:=u 2 _ rfl;have J:prog.cellsOf 9=1:=ak;have N:prog.cellsOf 3=1:=ak;have D:prog.cellsOf 79=3:=ak;simp[J,N,D]at i j t;have O:xs.length=3:=E;rw[List.getElem?_eq_getElem af]at i j t;obtain⟨s,es,_,_⟩:=DataW.trod_string underlying9 i;obtain⟨a,A,_,L⟩:=DataW.trod_int underlying3 j;obtain⟨y,B,F,M⟩:=acp t;simp at es A B;obtain⟨rfl,rfl,rfl⟩:=B;subst es A;have hb:=bounds_i64 L;exact⟨(s,a,y),rfl,UN,F,M⟩
end
end
abbrev zC(α:Type):=List UInt8->Bool->α×List UInt8×Bool
structure DK{α:Type}(enc:α->List UInt8)(ok:α->Prop)(rd:zC α):Prop where
 fwd:∀x,ok x->∀rest,rd (enc x++rest) false=(x,rest,false)
 back:∀l wr,(rd l wr).2.2=false->l=enc (rd l wr).1++(rd l wr).2.1/\wr=false
 len:∀l wr,(rd l wr).2.1.length<=l.length
def cY{α:Type}(rd:zC α):Nat->zC (List α)
 | 0,l,wr=>([],l,wr)
 | k+1,l,wr=>((cY rd k l wr).1++[(rd (cY rd k l wr).2.1 (cY rd k l wr).2.2).1],(rd (cY rd k l wr).2.1 (cY rd k l wr).2.2).2)
section
variable {α:Type} {enc:α->List UInt8} {ok:α->Prop} {rd:zC α}
theorem DK.bad(C:DK enc ok rd)(l:List UInt8):(rd l true).2.2=true:=by
 cases h:(rd l true).2.2 with
 | true=>rfl
 | false=>have:=(C.back l true h).2;cases this
theorem Kw(C:DK enc ok rd)(k:Nat)(l:List UInt8)(wr:Bool):(cY rd k l wr).2.1.length<=l.length/\(cY rd k l wr).1.length=k:=by
 induction k with
 | zero=>exact⟨aG _,rfl⟩
 | succ k h=>exact⟨bq (C.len _ _) h.1,by simp[cY,h.2]⟩
theorem UW(C:DK enc ok rd){k:Nat}{l:List UInt8}{wr:Bool}(h:(cY rd k l wr).2.2=true):∀d,(cY rd (k+d) l wr).2.2=true
 | 0=>h
 | d+1=>by have:=UW C h d;show (rd (cY rd (k+d) l wr).2.1 (cY rd (k+d) l wr).2.2).2.2=true;rw[this];exact C.bad _
theorem aep(p:α->Prop)(j:∀l wr,p (rd l wr).1)(k:Nat)(l:List UInt8)(wr:Bool):∀x∈(cY rd k l wr).1,p x:=by
 induction k with
 | zero=>simp[cY]
 | succ k i =>
  intro x h;rcases List.mem_append.1 h with h|h
  ·exact i x h
  ·simp only[List.mem_singleton]at h;subst h;exact j _ _
theorem aeq(C:DK enc ok rd)(l:List α)(h:∀x∈l,ok x)(rest:List UInt8):∀k,k<=l.length->cY rd k (l.flatMap enc++rest) false=(l.take k,(l.drop k).flatMap enc++rest,false):=by
 intro k
 induction k with
 | zero=>intro _;simp[cY]
 | succ k ih => intro hk;have hk':k<l.length:=af;have hd:l.drop k=l[k] :: l.drop (k+1):=UX;have hx:=h l[k] (bW hk');show ((cY rd k (l.flatMap enc++rest) false).1++[(rd (cY rd k (l.flatMap enc++rest) false).2.1 (cY rd k (l.flatMap enc++rest) false).2.2).1],(rd (cY rd k (l.flatMap enc++rest) false).2.1 (cY rd k (l.flatMap enc++rest) false).2.2).2)=_;exact aer
theorem adg(C:DK enc ok rd){k:Nat}{l:List UInt8}{wr:Bool}(h:(cY rd k l wr).2.2=false):l=(cY rd k l wr).1.flatMap enc++(cY rd k l wr).2.1/\wr=false:=by
 induction k with
 | zero=>exact⟨by simp[cY],h⟩
 | succ k s => obtain⟨e1,j⟩:=C.back (cY rd k l wr).2.1 (cY rd k l wr).2.2 h;obtain⟨e2,i⟩:=s j;refine⟨?_,i⟩;show l=((cY rd k l wr).1++[(rd (cY rd k l wr).2.1 (cY rd k l wr).2.2).1]).flatMap enc++(rd (cY rd k l wr).2.1 (cY rd k l wr).2.2).2.1;exact UY
end
def mI(s:ByteArray)(x:bh):Bool:=decide (x.1=s)
def Bt(l:List bh)(s:ByteArray):Value:=match l.find? (mI s)with|some x=>.tuple #[vv x.2.1 x.2.2.1 x.2.2.2,.bool true]|none=>.tuple #[vv 0 0 { data:=#[] },.bool false]
theorem adh(l:List bh)(s:ByteArray)(k:Nat)(hk:k<l.length)(h:mI s l[k]=true)(j:∀x∈l.take k,mI s x=false):l.find? (mI s)=some l[k]:=by
 have e:l=l.take k++l[k] :: l.drop (k+1):=by rw[List.getElem_cons_drop,List.take_append_drop]
 conv=>lhs;rw[e]
 rw[List.find?_append,List.find?_eq_none.2 (λx i=>by simp[j x i]),List.find?_cons_of_pos h];rfl
theorem ash(l:List bh)(s:ByteArray)(i:∀x∈l,mI s x=false):l.find? (mI s)=none:=List.find?_eq_none.2 λx h=>by simp[i x h]
theorem adi(s:ByteArray):∀l:List bh,(∃k,∃hk:k<l.length,mI s l[k]=true/\∀x∈l.take k,mI s x=false)∨∀x∈l,mI s x=false
 | []=>.inr aj
 | y :: l=>by
  cases h:mI s y with
  | true=>exact .inl ⟨0,aj,rT,aj⟩
  | false =>
   rcases adi s l with ⟨k,hk,h1,j⟩|h1
   ·refine .inl ⟨k+1,pc,Ip,?_⟩;intro x i;rw[dR]at i;rcases List.mem_cons.1 i with rfl|i
    ·exact h
    ·exact j x i
   ·refine .inr λx i=>?_
    rcases List.mem_cons.1 i with rfl|i
    ·exact h
    ·exact h1 x i
theorem Hy(a b:ByteArray):a.toList=b.toList↔a=b:=by rw[ByteArray.toList_eq,ByteArray.toList_eq];exact⟨λh=>UU h,λh=>by rw[h]⟩
theorem aqO(k n i j:Int)(s h:ByteArray)(w:World)(d:Nat):(Op.equalIn (d+1+1) 79 (vv k n s) (vv i j h)).run prog w=.ok (decide ((k,n,s)=(i,j,h))) w:=by simp[go_sem,Hy];by_cases t:k=i <;> by_cases u:n=j <;> by_cases y:s=h <;> simp[t,u,y]
theorem aqP(x y:bh)(w:World)(d:Nat):(Op.equalIn (d+1+1+1) 84 (.agg #[.string x.1,.int .i64 x.2.1,.int .i64 x.2.2.1,.string x.2.2.2]) (.agg #[.string y.1,.int .i64 y.2.1,.int .i64 y.2.2.1,.string y.2.2.2])).run prog w=.ok (decide (x=y)) w:=by obtain⟨a,k,n,s⟩:=x;obtain⟨t,B,C,u⟩:=y;simp[go_sem,Hy];by_cases h:a=t <;> by_cases i:k=B <;> by_cases j:n=C <;> by_cases A:s=u <;> simp[h,i,j,A]
theorem avy(x y:bh)(w:World):(binOp .neq 84 (.agg #[.string x.1,.int .i64 x.2.1,.int .i64 x.2.2.1,.string x.2.2.2]) (.agg #[.string y.1,.int .i64 y.2.1,.int .i64 y.2.2.1,.string y.2.2.2])).run prog w=.ok (.bool (!decide (x=y))) w:=by rw[run_neq_struct,aqP x y w 9997];rfl
theorem avz(k n h j:Int)(s i:ByteArray)(w:World):(binOp .eql 79 (vv k n s) (vv h j i)).run prog w=.ok (.bool (decide ((k,n,s)=(h,j,i)))) w:=by rw[run_eql_struct,aqO k n h j s i w 9998];rfl
abbrev Vl:=Int×Int×ByteArray
def gM(a b:Int):Int:=if a<b then -1 else if b<a then 1 else 0
def xN(a b:ByteArray):Int:=if kZ a b then -1 else if kZ b a then 1 else 0
def fB(a b:Vl):Int:=if gM a.1 b.1 != 0 then gM a.1 b.1 else if gM a.2.1 b.2.1 != 0 then gM a.2.1 b.2.1 else xN a.2.2 b.2.2
def preB(a b:ByteArray):Bool:=decide (b.size<=a.size)&&((a.extract 0 b.size).toList==b.toList)
def jR(a b:Vl):Bool:=a.1==2&&b.1==2&&preB a.2.2 b.2.2
def iV(t:bc)(v:Vl):Bool :=
 if t.2.1==8 then true else
 (v.1==t.2.2.1)&&(if t.2.1==1 then fB v t.2.2==0 else if t.2.1==2 then fB v t.2.2 != 0 else if t.2.1==3 then decide (fB v t.2.2<0)else if t.2.1==4 then decide (fB v t.2.2<=0)
  else if t.2.1==5 then decide (0<fB v t.2.2)else if t.2.1==6 then decide (0<=fB v t.2.2)else if t.2.1==7 then jR v t.2.2 else false)
def rV(t:bc)(e:List bh):Bool:=match e.find? (mI t.1)with|some x=>iV t x.2|none=>false
def lT(f:List bc)(e:List bh):Bool:=f.all λt=>rV t e
def fU(t:bc):Bool :=
 rU t.1&&(if t.2.1==8 then decide (t.2.2=(0,0,⟨#[]⟩))else if t.2.1==7 then iU t.2.2.1 t.2.2.2.1 t.2.2.2.2&&t.2.2.1==2 else decide (1<=t.2.1)&&decide (t.2.1<=8)&&iU t.2.2.1 t.2.2.2.1 t.2.2.2.2)
def okF(l:List bc):Bool:=decide (l.length<=8)&&l.all fU
def zf(t:bc):Int:=if fU t then 0 else 50
def mc(l:List bc):Int:=if okF l then 0 else 50
def jS(t:bc):List UInt8:=(aD t.1.size++dh t.1)++(aD (bf t.2.1)++(if t.2.1==8 then []else nC t.2.2.1 t.2.2.2.1 t.2.2.2.2))
def jx(l:List bc):List UInt8:=aD l.length++l.flatMap jS
def Bu(l:List bc):List UInt8:=if okF l then jx l else []
def fF:zC bc:=λl wr =>
 if 8<(aC (aP 16 l wr).2.1 (aP 16 l wr).2.2).1 then ((⟨#[]⟩,0,0,0,⟨#[]⟩),(aC (aP 16 l wr).2.1 (aP 16 l wr).2.2).2.1,true)
 else if (aC (aP 16 l wr).2.1 (aP 16 l wr).2.2).1=8 then ((⟨(aP 16 l wr).1.toArray⟩,8,0,0,⟨#[]⟩),(aC (aP 16 l wr).2.1 (aP 16 l wr).2.2).2)
 else ((⟨(aP 16 l wr).1.toArray⟩,((aC (aP 16 l wr).2.1 (aP 16 l wr).2.2).1:Int),(eQ (aC (aP 16 l wr).2.1 (aP 16 l wr).2.2).2.1 (aC (aP 16 l wr).2.1 (aP 16 l wr).2.2).2.2).1.1,
  (eQ (aC (aP 16 l wr).2.1 (aP 16 l wr).2.2).2.1 (aC (aP 16 l wr).2.1 (aP 16 l wr).2.2).2.2).1.2.1,⟨(eQ (aC (aP 16 l wr).2.1 (aP 16 l wr).2.2).2.1 (aC (aP 16 l wr).2.1 (aP 16 l wr).2.2).2.2).1.2.2.toArray⟩),
  (eQ (aC (aP 16 l wr).2.1 (aP 16 l wr).2.2).2.1 (aC (aP 16 l wr).2.1 (aP 16 l wr).2.2).2.2).2)
def DN(b:List UInt8):List bc×List UInt8×Bool:=cY fF (aC b false).1 (aC b false).2.1 (aC b false).2.2
def pT(b:List UInt8):Option (List bc) :=
 if decide ((aC b false).1<=8)&&!(DN b).2.2&&(DN b).2.1.isEmpty&&okF (DN b).1 then some (DN b).1 else none
def tT(b:List UInt8):List bc:=(pT b).getD []
def tU(b:List UInt8):Int:=if (pT b).isSome then 0 else 50
theorem AV{l:List bc}(h:okF l=true):l.length<=8/\∀x∈l,fU x=true:=by simp only[okF,cz,decide_eq_true_eq,pU]at h;exact h
theorem EV{t:bc}(h:fU t=true):t.1.size<=16/\1<=t.2.1/\t.2.1<=8/\(t.2.1=8->t.2.2=(0,0,⟨#[]⟩))/\(t.2.1≠8->iU t.2.2.1 t.2.2.2.1 t.2.2.2.2=true):=by
 simp only[fU,cz]at h;obtain⟨j,i⟩:=h;simp only[rU,cz,decide_eq_true_eq]at j;refine⟨j.1.2,?_⟩;by_cases e8:t.2.1=8
 ·rw[if_pos Kx]at i;exact⟨af,af,λ_=>of_decide_eq_true i,λh=>absurd e8 h⟩
 ·rw[if_neg Kx]at i;by_cases e7:t.2.1=7
  ·rw[if_pos Ky]at i;simp only[cz]at i;exact⟨af,af,λh=>absurd h e8,λ_=>i.1⟩
  ·rw[if_neg Ky]at i;simp only[cz,decide_eq_true_eq]at i;exact⟨i.1.1,i.1.2,λh=>absurd h e8,λ_=>i.2⟩
theorem avA(l:List UInt8)(wr:Bool):(fF l wr).2.1.length<=l.length:=by
 have h:=Dq 16 l wr;have j:=nW (aP 16 l wr).2.1 (aP 16 l wr).2.2;have i:=OP (aC (aP 16 l wr).2.1 (aP 16 l wr).2.2).2.1 (aC (aP 16 l wr).2.1 (aP 16 l wr).2.2).2.2;unfold fF;split
 ·simp only;omega
 ·split
  ·simp only;omega
  ·simp only;omega
theorem avB(t:bc)(h:fU t=true/\iH t)(rest:List UInt8):fF (jS t++rest) false=(t,rest,false):=by
 obtain⟨E,i⟩:=h;obtain⟨y,A,h8,u,j⟩:=EV E;obtain⟨s,op,k,n,x⟩:=t;simp only at y A h8 u j i;have hk:bf op=op.toNat:=UQ;have C:aP 16 (jS (s,op,k,n,x)++rest) false=(dh s,aD (bf op)++(if op==8 then []else nC k n x)++rest,false):=by have:=EZ 16 (dh s) aU aU (aD (bf op)++(if op==8 then []else nC k n x)++rest);rw[show (dh s).length=s.size by simp]at this;unfold jS;rw[dG (aD s.size++dh s)];exact this
 have D:=pN (bf op) (fI op) ((if op==8 then []else nC k n x)++rest);unfold fF;rw[C];simp only;rw[dG (aD (bf op)),D];simp only;rw[if_neg af];by_cases e8:op=8
 ·rw[if_pos af];have:=u e8;simp only[Prod.mk.injEq]at this;obtain⟨rfl,rfl,rfl⟩:=this;subst e8;cases s;rfl
 ·rw[if_neg af,if_neg Kx];have B:=ade k n x (j e8) i.2.2.1 i.2.2.2 rest;rw[B];cases s;cases x;simp only[Prod.mk.injEq,and_true,true_and];omega
theorem at6(l:List UInt8)(wr:Bool)(h:(fF l wr).2.2=false):l=jS (fF l wr).1++(fF l wr).2.1/\wr=false:=by
 have C:=qO (aP 16 l wr).2.1 (aP 16 l wr).2.2;unfold fF at h⊢;split at h
 ·cases h
 ·rename_i h8;rw[if_neg h8];split at h
  ·rename_i i;rw[if_pos i];obtain⟨y,u⟩:=qM h;obtain⟨s,_,j⟩:=E0 u;refine⟨?_,j⟩;unfold jS;simp only;have t:(⟨(aP 16 l wr).1.toArray⟩:ByteArray).size=(aP 16 l wr).1.length:=OQ;rw[t,show dh ⟨(aP 16 l wr).1.toArray⟩=(aP 16 l wr).1 by simp[dh]];rw[show bf (8:Int)=(aC (aP 16 l wr).2.1 (aP 16 l wr).2.2).1 by rw[i];rfl];rw[if_pos au,List.append_nil,dG,<- y];exact s
  ·rename_i i;rw[if_neg i];obtain⟨A,_,B,_⟩:=Uh h;obtain⟨y,u⟩:=qM B;obtain⟨s,_,j⟩:=E0 u;refine⟨?_,j⟩;unfold jS;simp only;have t:(⟨(aP 16 l wr).1.toArray⟩:ByteArray).size=(aP 16 l wr).1.length:=OQ;rw[t,show dh ⟨(aP 16 l wr).1.toArray⟩=(aP 16 l wr).1 by simp[dh]];rw[show bf ((aC (aP 16 l wr).2.1 (aP 16 l wr).2.2).1:Int)=(aC (aP 16 l wr).2.1 (aP 16 l wr).2.2).1 by unfold bf;omega];rw[if_neg aU,dG,dG (aD (aC (aP 16 l wr).2.1 (aP 16 l wr).2.2).1),<- A,<- y];exact s
theorem Ia:DK jS (λt=>fU t=true/\iH t) fF:=⟨avB,at6,avA⟩
theorem avC(l:List UInt8)(wr:Bool):iH (fF l wr).1/\(fF l wr).1.1.size<=16:=by
 have i:=Oz 16 l wr;have j:=aem (aC (aP 16 l wr).2.1 (aP 16 l wr).2.2).2.1 (aC (aP 16 l wr).2.1 (aP 16 l wr).2.2).2.2;unfold fF;split
 ·exact⟨by unfold iH bU;simp,OQ⟩
 ·split
  ·exact⟨by unfold iH bU;simp,by simpa [ByteArray.size]using i⟩
  ·refine⟨⟨?_,j.1,j.2⟩,by simpa [ByteArray.size]using i⟩;unfold bU;simp only;omega
theorem aqQ(l:List bc)(t:okF l=true)(y:∀x∈l,iH x)(rest:List UInt8):aC (jx l++rest) false=(l.length,l.flatMap jS++rest,false)/\DN (jx l++rest)=(l,rest,false):=by
 obtain⟨A,u⟩:=AV t;have j:aC (jx l++rest) false=(l.length,l.flatMap jS++rest,false):=by unfold jx;rw[dG];exact pN l.length af _
 refine⟨j,?_⟩;have s:=aeq Ia l (λx i=>⟨u x i,y x i⟩) rest l.length (aG _);unfold DN;rw[j];simpa using s
theorem at7(l:List bc)(i:okF l=true)(j:∀x∈l,iH x):pT (jx l)=some l:=by have h:=aqQ l i j [];rw[List.append_nil]at h;have s:=(AV i).1;unfold pT;rw[h.2,h.1];simp[i,s]
theorem acu{b:List UInt8}{y:List bc}(h:pT b=some y):b=jx y/\okF y=true/\∀x∈y,iH x:=by
 unfold pT at h;split at h
 ·rename_i s;injection h with h;simp only[cz,Bool.not_eq_true',List.isEmpty_iff,decide_eq_true_eq]at s;obtain⟨⟨⟨E,u⟩,t⟩,j⟩:=s;unfold DN at u t j h;obtain⟨i,D⟩:=adg Ia u;obtain⟨C,_⟩:=qM D;have A:=(Kw Ia (aC b false).1 (aC b false).2.1 (aC b false).2.2).2;have hfit:=aep (λx:bc=>iH x/\x.1.size<=16) avC (aC b false).1 (aC b false).2.1 (aC b false).2.2;rw[h]at i A j hfit;rw[t,List.append_nil]at i;refine⟨?_,j,λx B=>(hfit x B).1⟩;unfold jx;rw[A,<- i];exact C
 ·cases h
theorem asi(t:bc)(w:World) :
 Calls prog 224 #[oN t] w λe w'=>e=.returned (.int .i64 (zf t))/\Below w.heap.size w w':=by
 obtain⟨s,op,k,n,x⟩:=t
 have hb0:Below w.heap.size w (w.alloc (.cells #[.string s,.int .i64 op,.int .i64 k,.int .i64 n,.string x] 81)):=(aN _ _).alloc (aG _) _
 have A:=ai.new w 81 #[.string s,.int .i64 op,.int .i64 k,.int .i64 n,.string x]
 have HT:Hid (fU (s,op,k,n,x)=(rU s&&(if op==8 then decide ((k,n,x)=(0,0,(⟨#[]⟩:ByteArray)))else if op==7 then iU k n x&&k==2 else decide (1<=op)&&decide (op<=8)&&iU k n x))):=ae rfl
 have pn:Hid (fU (s,op,k,n,x)=false->zf (s,op,k,n,x)=50):=ae (λh=>by simp[zf,h])
 have B:Hid (fU (s,op,k,n,x)=true->zf (s,op,k,n,x)=0):=ae (λh=>by simp[zf,h])
 go_enter func224,ntmps224
 go_wp2_with fail
 refine (TC s _).mono ?_
 rintro e w'⟨rfl,rfl⟩
 cases hn:rU s
 ·have HE:=ae (pn.aa (by rw[HT.aa,hn];rfl));go_wp2;go_ret;exact⟨fL,hb0⟩
 by_cases y:op<1
 ·exact aes
 by_cases h8:8<op
 ·exact aes
 go_wp2_with fail
 refine (N4 k n x _).mono ?_
 rintro e M⟨rfl,u⟩
 have i:=A.below u A.lt
 have dI:=hb0.trans (u.mono hb0.size)
 have I:=i.cell 1
 have G:=i.cell 2
 have H:=i.cell 3
 have F:=i.cell 4
 simp at I G H F
 have HC:Hid ((mH k n x==0)=iU k n x):=ae (by unfold mH;cases iU k n x <;> rfl)
 clear u hb0 A
 by_cases e7:op=7
 ·have HE:Hid (fU (s,op,k,n,x)=(iU k n x&&k==2)):=by refine ae ?_;rw[HT.aa,hn,if_neg aU,if_pos aU];rfl
  have E:(op==7)=true:=Ky;have D:(op==8)=false:=Ky;clear e7 y h8;cases hv:iU k n x
  ·have j:(mH k n x==0)=false:=OS;have HF:=ae (pn.aa (by rw[HE.aa,hv];rfl));exact E6
  ·have j:(mH k n x==0)=true:=OS;cases hk:(k==2)
   ·have HF:=ae (pn.aa aet);exact E6
   ·have HF:=ae (B.aa aet);exact E6
 ·have E:(op==7)=false:=Ky;by_cases e8:op=8
  ·have HE:Hid (fU (s,op,k,n,x)=decide ((k,n,x)=(0,0,(⟨#[]⟩:ByteArray)))):=by refine ae ?_;rw[HT.aa,hn,if_pos aU];rfl
   have D:(op==8)=true:=Kx;clear e8 y h8 e7;have L:=avz k n 0 0 x ⟨#[]⟩;generalize C:decide ((k,n,x)=(0,0,(⟨#[]⟩:ByteArray)))=d at *;have J:=ae C;clear C;cases d
   ·have HF:=ae (pn.aa Kz);exact E6
   ·have HF:=ae (B.aa Kz);exact E6
  ·have HE:Hid (fU (s,op,k,n,x)=iU k n x):=by refine ae ?_;rw[HT.aa,hn,if_neg aU,if_neg aU];simp;omega
   have D:(op==8)=false:=Kx;clear e8 y h8 e7;cases hv:iU k n x
   ·have j:(mH k n x==0)=false:=OS;have HF:=ae (pn.aa (by rw[HE.aa,hv]));exact E6
   ·have j:(mH k n x==0)=true:=OS;have HF:=ae (B.aa (by rw[HE.aa,hv]));exact E6
theorem avD(l:List bc)(k:Nat)(h:k<l.length)(hb:fU l[k]=false):mc l=50:=by
 have:l.all fU=false:=by rw[List.all_eq_false];exact⟨l[k],bW h,by simp[hb]⟩
 simp[mc,okF,this]
theorem at8(l:List bc)(h8:l.length<=8)(h:∀x∈l.take l.length,fU x=true):mc l=0:=by rw[mC]at h;have:l.all fU=true:=List.all_eq_true.2 h;simp[mc,okF,this,h8]
theorem asj(l:List bc)(k:Nat)(h:k<l.length)(ha:∀x∈l.take k,fU x=true)(hb:fU l[k]=true):∀x∈l.take (k+1),fU x=true:=by exact aeu
theorem aqR(t:bc):(zf t=0/\fU t=true)∨(zf t=50/\fU t=false):=by unfold zf;cases fU t <;> simp
theorem Th(A:Option Addr)(c:Nat)(l:List bc)(w:World)(B:Nat)(G:Reads w B 5 A l.length (l.flatMap dY))(U:B<=w.heap.size) :
 Calls prog 169 #[.slice A l.length c] w λe w'=>e=.returned (.int .i64 (mc l))/\Below w.heap.size w w':=by
 by_cases h8:8<l.length
 ·have T:(8:Int)<(l.length:Int):=af;have HE:Hid (mc l=50):=ae (by simp[mc,okF,show ¬l.length<=8 by omega]);clear G;generalize l.length=n at *;go_enter func169,ntmps169;go_wp2;exact OT
 have T:¬(8:Int)<(l.length:Int):=af
 have W:=ae G
 clear G
 go_enter func169,ntmps169
 go_wp2_with fail
 go_loopw [11] (fun i wr=>∃k:Nat,k<=l.length/\i=.int .i64 (k:Int)/\Hid (∀x∈l.take k,fU x=true)/\Below w.heap.size w wr) (fun i _=>l.length-(intOf i).toNat)
 case atStart=>exact⟨0,af,rfl,ae aj,aN _ _⟩
 case round =>
  obtain⟨k,hk,rfl,O,hb⟩:=hrel;by_cases F:k<l.length
  ·have Z:(k:Int)<(l.length:Int):=af;obtain⟨b,s,rfl,Y,Q⟩:=W.aa.DW af;obtain⟨N,H,M,I,L⟩:=Q k F;have u:b<w.heap.size:=bB Y U;have d0:=(hb.cell (p:=⟨b,s+k*5,none⟩) u).trans N;have d1:=(hb.cell (p:=⟨b,s+k*5+1,none⟩) u).trans H;have d2:=(hb.cell (p:=⟨b,s+k*5+2,none⟩) u).trans M;have d3:=(hb.cell (p:=⟨b,s+k*5+3,none⟩) u).trans I;have d4:=(hb.cell (p:=⟨b,s+k*5+4,none⟩) u).trans L;have R:=ae (asj l k F O.aa);have YP:=ae (avD l k F);have hz:=hb.size;clear N H M I L Q;generalize l[k]=x at *;obtain⟨xs,y,C,E,D⟩:=x;simp only at d0 d1 d2 d3 d4;go_wp2_with fail
   refine (asi (xs,y,C,E,D) _).mono ?_;rintro e w2⟨rfl,hb2⟩;have J:Below w.heap.size w w2:=(hb.alloc hz _).trans (hb2.mono aU);rcases aqR (xs,y,C,E,D)with ⟨j,t⟩|⟨j,t⟩
   ·have X:(zf (xs,y,C,E,D) != 0)=false:=by rw[j];rfl
    have S:=ae (R.aa t);clear j t;go_wp2;go_roundw
    case rel=>exact⟨k+1,af,bO,S,J⟩
    case measure=>simp[intOf];omega
   ·have X:(zf (xs,y,C,E,D) != 0)=true:=by rw[j];rfl
    have HE:Hid (mc l=50):=ae (YP.aa t);have V:=ae j;clear j t;go_wp2;go_ret;exact⟨by rw[HE.aa,<- V.aa];rfl,J⟩
  ·have Z:¬(k:Int)<(l.length:Int):=af;have HE:Hid (mc l=0):=ae (at8 l af (by
    have:=O.aa;rwa [show k=l.length by omega]at this))
   go_wp2;exact KA
theorem abN{l:List bc}{v:Value}{w:World}(h:eJ l v w):Calls prog 169 #[v] w λe w'=>e=.returned (.int .i64 (mc l))/\Below w.heap.size w w':=by obtain⟨A,c,rfl,i⟩:=h;exact Th A c l w _ i (aG _)
