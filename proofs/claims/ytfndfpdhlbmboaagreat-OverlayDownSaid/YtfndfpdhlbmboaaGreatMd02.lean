/-
  A region that draws its order, each of whose operations needs no more than what the operations before it (by its edges) have left: one obligation for each operation, whatever order is drawn. Conditions: what an operation leaves stays true while the others go on.
-/
import Derived.Test.YtfndfpdhlbmboaaGreatMd01
import Derived.Orders
import Derived.BigQuiet
import Derived.IntWalk
import Derived.Deep.QuietTactic
import Derived.Deep.RegionHeld3
import Derived.Deep.DrawnRows
import Derived.Test.YtfndfpdhlbmboaaGreatMdz
set_option maxRecDepth 100000
set_option linter.constructorNameAsVariable false
set_option maxHeartbeats 16000000
set_option linter.unusedVariables false
set_option linter.unusedSimpArgs false
namespace Go.Proofs.YtfndfpdhlbmboaaGreat
open Go Go.RowKit _root_.Go.Proofs.Tryz
section
variable {P:Program} {Q:Exit->Act->World->Prop}
def pK(ops:Array Oper)(j:Nat):Option Tmp:=(ops[j]?).bind (·.dst)
def ahead(o:Oper):List Nat:=(o.after.toList.filter (Region.binds .any)).map (·.on)
def sy(ops:Array Oper)(n:Nat):Bool :=
 ops.toList.zipIdx.all λx =>
  (ahead x.1).all (λj=>decide (j<x.2)) &&
  (match x.1.op with | .select ..=>false|_=>true) &&
  (match x.1.dst with|some d=>decide (d<n)&&ops.toList.zipIdx.all (λy=>y.2==x.2||y.1.dst != some d)|none=>true) &&
  (match x.1.guard with|some (j,_)=>(ahead x.1).contains j&&(pK ops j).isSome|none=>true) &&
  ((x.1.looksAt ops).all λt=>ops.toList.zipIdx.all λy=>y.1.dst != some t||(y.2 != x.2&&((ahead x.1).contains y.2||(ahead y.1).contains x.2)))
def za(ops:Array Oper)(u:Act)(V:Nat->Value)(o:Oper):Operand->Value
 | .tmp t=>match (ahead o).find? (λj=>pK ops j==some t)with
  | some j=>V j
  | none=>u.tmps.getD t undef
 | x=>u.eval x
def wants(V:Nat->Value)(o:Oper):Bool :=
 match o.guard with
 | none=>true
 | some (j,want)=>match V j with
  | .bool b=>b==want
  | _=>false
def upd(L:Nat->Bool)(i:Nat):Nat->Bool:=λj=>if j=i then true else L j
def kI(P:Program)(R:Value->World->Prop):Result Next->Prop
 | .ok (.value v) w'=>R v w'
 | .ok .skip w'=>R undef w'
 | .ok (.enter f args) w'=>Calls P f args w' λe j=>∃v,e=.returned v/\R v j
 | _=>False
def bj(V:Nat->Value)(i:Nat)(v:Value):Nat->Value:=λj=>if j=i then v else V j
def Closed(ops:Array Oper)(L:Nat->Bool):Prop:=(∀j o,ops[j]?=some o->L j=true->∀k∈ahead o,L k=true)/\∀j,L j=true->j<ops.size
def Rf(P:Program)(ops:Array Oper)(j:Act)(I:(Nat->Bool)->(Nat->Value)->World->Prop)(i:Nat)(o:Oper):Prop :=
 ∀(L:Nat->Bool) (V:Nat->Value) (w:World),L i=false->Closed ops L->(∀k∈ahead o,L k=true)->I L V w ->
  if wants V o=true then kI P (λv w'=>I (upd L i) (bj V i v) w') ((execOp (za ops j V o) o).run P w)else I (upd L i) (bj V i undef) w
def fZ(V:Nat->Value):List Oper->Nat->Act->Act
 | [],_,a=>a
 | o :: r,k,a=>fZ V r (k+1) (a.put o.dst (V k))
structure Inv(ops:Array Oper)(a0:Act)(I:(Nat->Bool)->(Nat->Value)->World->Prop)(L:Array Bool)(a:Act)(w:World):Prop where
 size:L.size=ops.size
 closed:∀j o,ops[j]?=some o->L.getD j false=true->∀k∈ahead o,L.getD k false=true
 EK:a.tmps.size=a0.tmps.size
 Mb:a.defers=a0.defers
 xH:∃V:Nat->Value,(∀j d,L.getD j false=true->pK ops j=some d->a.tmps.getD d undef=V j) /\
  (∀t,(∀j,L.getD j false=true->pK ops j≠some t)->a.tmps.getD t undef=a0.tmps.getD t undef)/\I (λj=>L.getD j false) V w
theorem Fz{ops n}(h:sy ops n=true){i o}(D:ops[i]?=some o) :
 (∀j∈ahead o,j<i)/\(∀cs b,o.op≠.select cs b)/\(∀d,o.dst=some d->d<n/\∀j p,ops[j]?=some p->j≠i->p.dst≠some d) /\
 (∀j B,o.guard=some (j,B)->j∈ahead o/\∃d,pK ops j=some d) /\
 (∀t∈o.looksAt ops,∀j p,ops[j]?=some p->p.dst=some t->j≠i/\(j∈ahead o∨i∈ahead p)):=by
 have mem:∀ {j:Nat} {p:Oper},ops[j]?=some p->(p,j)∈ops.toList.zipIdx:=λ{j p} y=>List.mem_zipIdx_iff_getElem?.2 aA
 have A:=List.all_eq_true.1 h _ (mem D)
 simp only[dC]at A
 obtain⟨⟨⟨⟨A,H⟩,G⟩,u⟩,E⟩:=A
 refine⟨λj y=>aA,?_,?_,?_,?_⟩
 ·grind
 ·grind
 ·intro j B hg;rw[hg]at u;simp only[dC,List.contains_iff_mem]at u;exact⟨u.1,Option.isSome_iff_exists.1 u.2⟩
 ·intro t C j p y F;have:=List.all_eq_true.1 (List.all_eq_true.1 E t C) _ (mem y);simp only[F,Bool.or_eq_true,dC,bne_iff_ne,List.contains_iff_mem]at this;rcases this with h|h
  ·exact absurd rfl h
  ·exact h
theorem Iw{ops j d}(h:pK ops j=some d):∃p,ops[j]?=some p/\p.dst=some d:=by
 unfold pK at h
 cases hp:ops[j]? with
 | none=>rw[hp]at h;cases h
 | some p=>rw[hp]at h;exact⟨p,rfl,h⟩
theorem adu{o k}:k∈ahead o ↔ ∃e∈o.after,Region.binds .any e=true/\e.on=k:=by
 grind [ahead]
theorem auW{ops}{A a:Act}{L:Array Bool}{V i o}
 (I:sy ops A.tmps.size=true) (M:ops[i]?=some o) (G:L.getD i false=false) (hp:∀k∈ahead o,L.getD k false=true)
 (closed:∀j o,ops[j]?=some o->L.getD j false=true->∀k∈ahead o,L.getD k false=true)
 (H:∀j d,L.getD j false=true->pK ops j=some d->a.tmps.getD d undef=V j)
 (N:∀t,(∀j,L.getD j false=true->pK ops j≠some t)->a.tmps.getD t undef=A.tmps.getD t undef) :
 ∀x∈o.op.operands,a.eval x=za ops A V o x:=by
 obtain⟨Q,P,R,O,F⟩:=Fz I M
 intro x J
 cases x with
 | tmp t =>
  have E:t∈o.looksAt ops:=List.mem_append_left _ (List.mem_filterMap.2 ⟨.tmp t,by simpa using J,rfl⟩)
  show a.tmps.getD t undef=za ops A V o (.tmp t)
  cases hf:(ahead o).find? (λj=>pK ops j==some t)with
  | some j => have y:=List.find?_some hf;have hm:=List.mem_of_find?_eq_some hf;simp only[beq_iff_eq]at y;simp only[za,hf];exact H j t (hp j hm) y
  | none =>
   simp only[za,hf];refine N t λj y B=>?_
   obtain⟨p,C,D⟩:=Iw B;obtain⟨S,u⟩:=F t E j p C D;rcases u with u|u
   ·have:=List.find?_eq_none.1 hf j u;simp[B]at this
   ·have:=closed j p C y i u;rw[G]at this;cases this
 | const v=>rfl
 | global g=>rfl
 | func f=>rfl
theorem auX{ops}{y a:Act}{L:Array Bool}{V}{i:Nat}{o}
 (u:sy ops y.tmps.size=true) (I:ops[i]?=some o) (hp:∀k∈ahead o,L.getD k false=true) (G:a.tmps.size=y.tmps.size)
 (F:∀j d,L.getD j false=true->pK ops j=some d->a.tmps.getD d undef=V j) :
 Region.wanted o (yielded ops a.tmps)=wants V o:=by
 obtain⟨P,O,Q,C,N⟩:=Fz u I
 unfold Region.wanted wants
 cases hg:o.guard with
 | none=>rfl
 | some gw =>
  obtain⟨j,E⟩:=gw;obtain⟨H,d,t⟩:=C j E hg;have M:=F j d (hp j H) t;obtain⟨p,D,B⟩:=Iw t;have A:d<a.tmps.size:=by rw[G];exact ((Fz u D).2.2.1 d B).1
  have J:yielded ops a.tmps j=match V j with | .bool b=>some b|_=>none:=by
   unfold yielded;unfold pK at t;rw[t];have:a.tmps[d]?=some (V j):=by rw[<- M];simp[A]
   show (match a.tmps[d]? with|some (.bool b)=>some b|_=>none)=_;rw[this];cases V j <;> rfl
  simp only[J];cases V j <;> simp
theorem ae9{ops}{C a:Act}{I}{L:Array Bool}{w' V i o v}
 (T:sy ops C.tmps.size=true) (B:ops[i]?=some o) (Y:L.getD i false=false) (hp:∀k∈ahead o,L.getD k false=true)
 (J:L.size=ops.size) (closed:∀j o,ops[j]?=some o->L.getD j false=true->∀k∈ahead o,L.getD k false=true)
 (EK:a.tmps.size=C.tmps.size) (Mb:a.defers=C.defers)
 (R:∀j d,L.getD j false=true->pK ops j=some d->a.tmps.getD d undef=V j)
 (U:∀t,(∀j,L.getD j false=true->pK ops j≠some t)->a.tmps.getD t undef=C.tmps.getD t undef)
 (Q:I (upd (λj=>L.getD j false) i) (bj V i v) w') :
 Inv ops C I (L.setIfInBounds i true) (a.put o.dst v) w':=by
 obtain⟨k1,Z,M,W,X⟩:=Fz T B
 have N:i<L.size:=by rw[J];exact (Array.getElem?_eq_some_iff.1 B).1
 have F:∀j,(L.setIfInBounds i true).getD j false=upd (λj=>L.getD j false) i j:=by
  intro j;unfold upd;by_cases u:j=i
  ·subst u;simp[N]
  ·rw[if_neg u,getD_set_ne _ (λe=>u e.symm)]
 have H:∀j,(L.setIfInBounds i true).getD j false=true->j=i∨L.getD j false=true:=by
  intro j u;rw[F j]at u;unfold upd at u;by_cases A:j=i
  ·exact .inl A
  ·rw[if_neg A]at u;exact .inr u
 refine⟨by simpa using J,?_,?_,?_,⟨λj=>if j=i then v else V j,?_,?_,?_⟩⟩
 ·intro j p y u k hk;rcases H j u with rfl|u
  ·rw[B]at y;injection y with y;subst y;exact getD_set_true (hp k hk)
  ·exact getD_set_true (closed j p y u k hk)
 ·rw[<- EK];cases o.dst <;> simp[Act.put]
 ·rw[<- Mb];cases o.dst <;> rfl
 ·intro j d u E;by_cases A:j=i
  ·subst A;obtain⟨p,y,D⟩:=Iw E;rw[B]at y;injection y with y;subst y;have:=(M d D).1;rw[D];simp[Act.put,EK,this]
  ·show _=if j=i then v else V j
   rw[if_neg A];have S:=(H j u).resolve_left A;rw[<- R j d S E];cases ho:o.dst with
   | none=>rfl
   | some e =>
    obtain⟨p,y,D⟩:=Iw E;have hne:e≠d:=by rintro rfl;exact (M e ho).2 j p y A D
    exact VE
 ·intro t G;have O:=G i (by rw[F];simp[upd]);rw[<- U t λj u=>G j (getD_set_true u)];cases ho:o.dst with
  | none=>rfl
  | some e =>
   have hne:e≠t:=by rintro rfl;exact O (by unfold pK;rw[B];exact ho)
   exact VE
 ·have:(λj=>(L.setIfInBounds i true).getD j false)=upd (λj=>L.getD j false) i:=funext F;rw[this];exact Q
theorem auY{ops y a I L w i}
 (A:sy ops y.tmps.size=true) (Y:∀i o,ops[i]?=some o->Rf P ops y I i o)
 (h:Inv ops y I L a w) (W:i∈Region.ready .any ops L):wpOp P ops Q i (Inv ops y I (L.setIfInBounds i true)) a w:=by
 obtain⟨rV,o,u,T⟩:=mem_ready.1 W
 have F:=h.size
 have hlt:i<L.size:=aA
 have B:L.getD i false=false:=VF
 have hp:∀k∈ahead o,L.getD k false=true:=by intro k hk;obtain⟨e,U,hb,rfl⟩:=adu.1 hk;exact T e U hb
 obtain⟨V,C,E,H⟩:=h.xH
 have R:=(Fz A u).2.1
 have M:=auW A u B hp h.closed C E
 have X:=auX A u hp h.EK C
 have J:=execOp_congr o R M
 have O:∀j,L.getD j false=true->j<ops.size:=by
  intro j S;by_cases N:j<L.size
  ·omega
  ·simp[N]at S
 have t:=Y i o u (λj=>L.getD j false) V w B ⟨h.closed,O⟩ hp H
 unfold wpOp
 simp only[u]
 rw[X]
 by_cases G:wants V o=true
 ·rw[if_pos G]at t⊢;refine .inl ?_;unfold Oper.wp;rw[J];generalize (execOp (za ops y V o) o).run P w=r at *;have put:∀v w',I (upd (λj=>L.getD j false) i) (bj V i v) w'->Inv ops y I (L.setIfInBounds i true) (a.put o.dst v) w':=λv w' D =>
   ae9 A u B hp F h.closed h.EK h.Mb C E D
  cases r with
  | ok n w' =>
   cases n <;> simp only[kI]at t <;> simp only[Oper.upon]
   case value v=>exact put _ _ t
   case skip=>exact put _ _ t
   case enter f args => apply bS t;intro v Z D;exact put _ _ D
  | halt x w'=>simp only[kI]at t
 ·rw[if_neg G]at t⊢;exact ae9 A u B hp F h.closed h.EK h.Mb C E t
theorem as1 V:∀(l:List Oper) (k:Nat) (a:Act),(fZ V l k a).tmps.size=a.tmps.size/\(fZ V l k a).defers=a.defers /\
 (∀t,(∀(j:Nat) (o:Oper),l[j]?=some o->o.dst≠some t)->(fZ V l k a).tmps.getD t undef=a.tmps.getD t undef) /\
 (∀(j:Nat) (o:Oper) (t:Tmp),l[j]?=some o->o.dst=some t->t<a.tmps.size->(∀(u:Nat) (o':Oper),l[u]?=some o'->u≠j->o'.dst≠some t)->(fZ V l k a).tmps.getD t undef=V (k+j)):=by
 intro l
 induction l with
 | nil=>intro k a;exact⟨rfl,rfl,λ_ _=>rfl,λj o t h=>aA⟩
 | cons o r J =>
  intro k a;obtain⟨F,G,C,H⟩:=J (k+1) (a.put o.dst (V k));have D:(a.put o.dst (V k)).tmps.size=a.tmps.size:=by cases o.dst <;> simp[Act.put]
  refine⟨F.trans D,G.trans (by cases o.dst <;> rfl),λt B=>?_,λj p t hj E y A=>?_⟩
  ·show (fZ V r (k+1) (a.put o.dst (V k))).tmps.getD t undef=_;rw[C t λj p hj=>B (j+1) p DR];have I:=B 0 o aj;cases ho:o.dst with
   | none=>rfl
   | some e =>
    have hne:e≠t:=by rintro rfl;exact I ho
    exact VE
  ·show (fZ V r (k+1) (a.put o.dst (V k))).tmps.getD t undef=_;cases j with
   | zero => simp at hj;subst hj;rw[C t λj p hj=>A (j+1) p DR af,E];simp[Act.put,y]
   | succ j =>
    have:=H j p t DR E (by rw[D];exact y) λu o' hj' hne=>A (u+1) o' VG af
    rw[this];congr 1;omega
theorem arC{ops n L}(u:sy ops n=true)(C:L.size=ops.size)(A:Region.ready .any ops L=[]):∀i,i<ops.size->L.getD i false=true:=by
 intro i
 induction i using Nat.strongRecOn with
 | _ i B =>
  intro D;by_cases h:L.getD i false=true
  ·exact h
  ·exfalso;have j:ops[i]?=some ops[i]:=aj;have:i∈Region.ready .any ops L:=by
    refine mem_ready.2 ⟨?_,_,j,λe y hb=>?_⟩
    ·grind
    ·have hk:=adu.2 ⟨e,y,hb,rfl⟩;have t:=(Fz u j).1 _ hk;exact B _ t af
   rw[A]at this;cases this
theorem awI{ops u I}
 (H:sy ops u.tmps.size=true) (owed:∀i o,ops[i]?=some o->Rf P ops u I i o)
 (fin:∀(V:Nat->Value) (w:World),I (λj=>decide (j<ops.size)) V w->Q .normal (fZ V ops.toList 0 u) w) :
 ∀(A:Nat) (L:Array Bool) (a:Act) (w:World),L.toList.count false<=A->Inv ops u I L a w->wpAny P .any ops Q A L a w:=by
 have done:∀(L:Array Bool) (a:Act) (w:World),Inv ops u I L a w->Region.ready .any ops L=[]->Q .normal a w:=by
  intro L a w h D;have hall:=arC H h.size D;obtain⟨V,h1,h2,N⟩:=h.xH;have hLf:(λj=>L.getD j false)=λj=>decide (j<ops.size):=by
   funext j;by_cases hj:j<ops.size
   ·grind
   ·have:¬j<L.size:=by rw[h.size];exact hj
    simp[hj,this]
  rw[hLf]at N;have W:=fin V w N;obtain⟨p1,p2,p3,R⟩:=as1 V ops.toList 0 u;have U:a=fZ V ops.toList 0 u:=by
   have X:=h.Mb.trans p2.symm;have F:a.tmps=(fZ V ops.toList 0 u).tmps:=by
    apply Array.ext
    ·rw[h.EK,p1]
    ·intro t O ht2;have g1:a.tmps[t]=a.tmps.getD t undef:=by simp[O]
     have S:(fZ V ops.toList 0 u).tmps[t]=(fZ V ops.toList 0 u).tmps.getD t undef:=by simp[ht2]
     rw[g1,S];by_cases G:∃j,j<ops.size/\pK ops j=some t
     ·obtain⟨j,hj,y⟩:=G;obtain⟨p,B,M⟩:=Iw y;rw[h1 j t (hall j hj) y];have h5:=R j p t (by simpa using B) M (by rw[<- h.EK];exact O) λZ o' hj' hne hd'=>(Fz H B).2.2.1 t M |>.2 Z o' VG hne hd'
      rw[h5,mQ]
     ·rw[h2 t λj hj y=>G ⟨j,?_,y⟩,p3 t λj o hj y=>G ⟨j,?_,?_⟩]
      ·have:=(List.getElem?_eq_some_iff.1 hj).1;simpa using this
      ·unfold pK;have hj':ops[j]?=some o:=DR;rw[hj'];exact y
      ·obtain⟨p,B,_⟩:=Iw y;exact (Array.getElem?_eq_some_iff.1 B).1
   calc a=⟨a.tmps,a.defers⟩:=rfl
    _=_:=by rw[F,X]
  rw[U];exact W
 intro A
 induction A with
 | zero =>
  intro L a w Ji h;have D:Region.ready .any ops L=[]:=by
   apply List.eq_nil_iff_forall_not_mem.2;intro i C;obtain⟨rV,o,J,_⟩:=mem_ready.1 C;have hlt:i<L.size:=by rw[h.size];exact (Array.getElem?_eq_some_iff.1 J).1
   have E:L[i]=false:=VF;have:false∈L.toList:=by rw[<- E];simp
   have:=List.count_pos_iff.2 this;omega
  exact⟨D,done L a w h D⟩
 | succ A ih =>
  intro L a w Ji h;refine⟨done L a w h,λi C=>?_⟩;refine wpOp_mono (λT w' Y=>ih _ T w' ?_ Y) (auY H owed h C);obtain⟨rV,o,J,_⟩:=mem_ready.1 C;have hlt:i<L.size:=by rw[h.size];exact (Array.getElem?_eq_some_iff.1 J).1
  have E:L[i]=false:=VF;have hpos:0<L.toList.count false:=List.count_pos_iff.2 (by rw[<- E];simp);rw[Array.toList_setIfInBounds,List.count_set (by simpa using hlt)];have F:(L.toList[i]'(by simpa using hlt)==false)=true:=by simp[E]
  rw[if_pos F,if_neg ax];omega
theorem Ue{id ops u w} I
 n (hn:u.tmps.size=n) (hm:P.follows .mixedOrders=true) (A:sy ops n=true)
 (B:I (λ_=>false) (λ_=>undef) w.drew) (C:∀i o,ops[i]?=some o->Rf P ops u I i o)
 (fin:∀(V:Nat->Value) (w:World),I (λj=>decide (j<ops.size)) V w->Q .normal (fZ V ops.toList 0 u) w) :
 (Code.region id ops true).wp P Q u w:=by
 subst hn
 refine wp_region_any hm (awI A C fin _ _ _ _ ?_ ⟨aj,?_,rfl,rfl,⟨λ_=>undef,?_,λ_ _=>rfl,?_⟩⟩)
 ·refine bn List.count_le_length ?_;simp
 ·intro j o D y;have t:=(Array.getElem?_eq_some_iff.1 D).1;simp[t]at y
 ·intro j d y E;by_cases t:j<ops.size <;> simp[t]at y
 ·have:(λj=>(Array.replicate ops.size false).getD j false)=λ_=>false:=by funext j;by_cases t:j<ops.size <;> simp[t]
  rw[this];exact B
def tab(l:List (Value->World->Prop))(i:Nat)(v:Value)(w:World):Prop:=(l.getD i (λ_ _=>True)) v w
theorem bW f l v w:tab (f :: l) 0 v w=f v w:=rfl
theorem bY f l n v w:tab (f :: l) (n+1) v w=tab l n v w:=rfl
theorem UA{Le:World->World->Prop}{l}(h:∀f∈l,∀v w w',f v w->Le w w'->f v w'):∀j v w w',tab l j v w->Le w w'->tab l j v w':=by
 intro j v w w' y u
 unfold tab at *
 by_cases t:j<l.length
 ·simp only[List.getD_eq_getElem?_getD,List.getElem?_eq_getElem t,Option.getD_some]at *;exact h _ (bZ t) v w w' y u
 grind
def aF(rd:List (Nat×Nat))(u:Act)(V:Nat->Value):Operand->Value
 | .tmp t=>match rd.lookup t with
  | some j=>V j
  | none=>u.tmps.getD t undef
 | x=>u.eval x
def bR(V:Nat->Value):Option (Nat×Bool)->Bool
 | none=>true
 | some (j,want)=>match V j with
  | .bool b=>b==want
  | _=>false
def aG (op:Op) (ty:TypeId):Oper:={ dst:=none,op:=op,type:=ty,pos:="",after:=#[],guard:=none }
def ajO(P:Program)(ops:Array Oper)(t:Act)(I:(Nat->Bool)->(Nat->Value)->World->Prop)(k:Nat)(op:Op)(ty:TypeId)(gd:Option (Nat×Bool))(al:List Nat)(rd:List (Nat×Nat)):Prop :=
 ∀(L:Nat->Bool) (V:Nat->Value) (w:World),L k=false->Closed ops L->(∀j∈al,L j=true)->I L V w ->
  if bR V gd=true then kI P (λv w'=>I (upd L k) (bj V k v) w') ((execOp (aF rd t V) (aG op ty)).run P w)else I (upd L k) (bj V k undef) w
def LU(P:Program)(ops:Array Oper)(j:Act)(I:(Nat->Bool)->(Nat->Value)->World->Prop):Nat->List Oper->List (List Nat×List (Nat×Nat))->Prop
 | _,[],_=>True
 | _,_ :: _,[]=>False
 | k,o :: r,x :: xs=>ajO P ops j I k o.op o.type o.guard x.1 x.2/\LU P ops j I (k+1) r xs
def uq(ops:Array Oper)(u:List (List Nat×List (Nat×Nat))):Bool :=
 ops.toList.zipIdx.all λx=>match u[x.2]? with
  | none=>false
  | some (al,rd)=>al.all (λj=>(ahead x.1).contains j) &&
   (match x.1.op with | .select ..=>false|_=>true) &&
   (x.1.op.operands.toList.all λy=>match y with
    | .tmp t=>(ahead x.1).find? (λj=>pK ops j==some t)==rd.lookup t
    | _=>true)
theorem Us ρ o:execOp ρ o=execOp ρ (aG o.op o.type):=by
 cases o with
 | mk j op t pos u y=>cases op <;> rfl
theorem as2{ops u I} C
 (R:uq ops C=true) (h:LU P ops u I 0 ops.toList C):∀i o,ops[i]?=some o->Rf P ops u I i o:=by
 have key:∀(l:List Oper) (k:Nat) (q:List (List Nat×List (Nat×Nat))),LU P ops u I k l q->∀(i:Nat) (o:Oper),l[i]?=some o->∃x,q[i]?=some x/\ajO P ops u I (k+i) o.op o.type o.guard x.1 x.2:=by
  intro l
  induction l with
  | nil=>intro k q _ i o A;simp at A
  | cons p r W =>
   intro k q hk i o A
   cases q with
   | nil=>exact False.elim hk
   | cons x xs =>
    cases i with
    | zero=>simp at A;subst A;exact⟨x,rfl,hk.1⟩
    | succ i =>
     obtain⟨y,F,D⟩:=W (k+1) xs hk.2 i o aA
     grind
 intro i o A
 obtain⟨⟨al,rd⟩,T,D⟩:=key _ 0 C h i o aA
 rw[mQ]at D
 have B:=List.all_eq_true.1 R (o,i) (List.mem_zipIdx_iff_getElem?.2 aA)
 simp only[T,dC]at B
 obtain⟨⟨B,G⟩,J⟩:=B
 intro L V w Q X S N
 have H:=λj E=>by simpa using List.all_eq_true.1 B j E
 have O:=D L V w Q X (λj E=>S j (H j E)) N
 have U:wants V o=bR V o.guard:=by unfold wants bR;rfl
 have M:execOp (za ops u V o) o=execOp (aF rd u V) (aG o.op o.type):=by
  rw[<- Us];refine execOp_congr o (λcs b e=>by rw[e]at G;cases G) λy F=>?_
  have h4:=List.all_eq_true.1 J y (by simpa using F);exact afa
 rw[U,M]
 exact O
def cW(P:Program)(φ:Value->World->Prop)(w:World):Result Next->Prop
 | .ok (.value v) w'=>φ v w'/\Below w.heap.size w w'
 | .ok .skip w'=>φ undef w'/\Below w.heap.size w w'
 | .ok (.enter f args) w'=>Calls P f args w' λe j=>∃v,e=.returned v/\φ v j/\Below w.heap.size w j
 | _=>False
def ajP(P:Program)(t:Act)(C:World->Prop)(φ:Nat->Value->World->Prop)(k:Nat)(op:Op)(ty:TypeId)(gd:Option (Nat×Bool))(al:List Nat)(rd:List (Nat×Nat)):Prop :=
 ∀(V:Nat->Value) (w:World),C w->(∀j∈al,φ j (V j) w)->if bR V gd=true then cW P (φ k) w ((execOp (aF rd t V) (aG op ty)).run P w)else φ k undef w
theorem yz{L i j}(h:upd L i j=true):j=i∨L j=true:=by
 grind [upd]
def Rg(P:Program)(C t:World->Prop)(Le:World->World->Prop)(φ:Value->World->Prop)(w:World):Result Next->Prop
 | .ok (.value v) w'=>φ v w'/\C w'/\t w'/\Le w w'
 | .ok .skip w'=>φ undef w'/\C w'/\t w'/\Le w w'
 | .ok (.enter f args) w'=>Calls P f args w' λe j=>∃v,e=.returned v/\φ v j/\C j/\t j/\Le w j
 | _=>False
def ayf(P:Program)(t:Act)(C u y:World->Prop)(Le:World->World->Prop)(φ:Nat->Value->World->Prop)(k:Nat)(op:Op)(ty:TypeId)(gd:Option (Nat×Bool))(al:List Nat)(rd:List (Nat×Nat)):Prop :=
 gd=none/\∀(V:Nat->Value) (w:World),C w->u w->(∀j∈al,φ j (V j) w)->Rg P C y Le (φ k) w ((execOp (aF rd t V) (aG op ty)).run P w)
def Jd(P:Program)(j:Act)(C u t:World->Prop)(Le:World->World->Prop)(φ:Nat->Value->World->Prop)(z:Nat):Nat->List Oper->List (List Nat×List (Nat×Nat))->Prop
 | _,[],_=>True
 | _,_ :: _,[]=>False
 | k,o :: r,x :: xs=>(if k=z then ayf P j C u t Le φ k o.op o.type o.guard x.1 x.2 else ajP P j C φ k o.op o.type o.guard x.1 x.2)/\Jd P j C u t Le φ z (k+1) r xs
def LV(C t u:World->Prop)(l:List (Value->World->Prop))(z:Nat)(L:Nat->Bool)(V:Nat->Value)(w:World):Prop:=C w/\(if L z=true then u w else t w)/\∀j,L j=true->tab l j (V j) w
def aJ(c:Value)(v:Value)(_:World):Prop:=v=c
def Rh(_:Value)(_:World):Prop:=True
def sl(l:List UInt8)(v:Value)(w:World):Prop:=∃A c,v=.slice A l.length c/\Reads w w.heap.size 1 A l.length (dS l)
theorem ayg c:∀v w w',aJ c v w->Below w.heap.size w w'->aJ c v w':=λ_ _ _ h _=>h
theorem awJ:∀v w w',Rh v w->Below w.heap.size w w'->Rh v w':=λ_ _ _ h _=>h
theorem oh l:∀v w w',sl l v w->Below w.heap.size w w'->sl l v w':=by rintro v w w'⟨A,c,h,j⟩ hb;exact⟨A,c,h,(j.below hb (aD _)).more hb.size⟩
theorem eT{w base e v l}(h:Own w base e v l):sl l v w:=by
 obtain⟨A,c,t,j⟩:=h.slice
 grind [sl]
theorem ayh{P w v l} t j e(y:P.underlying t=some (.slice e))(u:P.underlying e=some (.int .u8))(C:P.underlying j=some .string)
 (h:sl l v w):(convert t j v).run P w=.ok (.string ⟨l.toArray⟩) w:=by
 obtain⟨A,c,rfl,B⟩:=h
 grind [aeT]
end
def ll(x:cZ):Bool:=tv x.1&&iY x.2.1 x.2.2.1 x.2.2.2
def mI(a b:ByteArray):Bool:=Op.bytesLess a.toList b.toList
theorem afb:∀x y:List UInt8,Op.bytesLess x y=decide (x<y)
 | [],[]=>VH
 | _ :: _,[]=>VH
 | [],_ :: _=>VH
 | a :: x,b :: y=>by rw[Op.bytesLess,afb x y];simp only[List.cons_lt_cons_iff];by_cases t:a<b <;> by_cases j:a=b <;> simp[t,j]
theorem Lh a b:mI a b=true↔dX a<dX b:=by
 grind [mI,afb,ByteArray.toList_eq]
theorem VI{a b}(h:dX a=dX b):a=b:=by cases a;cases b;simp only[ByteArray.mk.injEq];exact Array.toList_inj.1 h
theorem PQ(a b:ByteArray):(a.toList==b.toList)=decide (a=b):=by
 grind [ByteArray.toList_eq,VI]
theorem UB a:mI a a=false:=by simp[Bool.eq_false_iff,Lh,List.lt_irrefl]
theorem adv{a b c}(h:mI a b=true)(k:mI b c=true):mI a c=true:=by
 grind [Lh,List.lt_trans]
theorem afc a b:(Op.bytesLess a.toList b.toList||a.toList==b.toList)=!mI b a:=by
 have u:Op.bytesLess a.toList b.toList=mI a b:=rfl;rw[u,PQ];by_cases e:a=b
 ·grind [UB]
 ·cases h:mI a b
  ·cases k:mI b a
   ·exfalso;have t:¬dX a<dX b:=λx=>by grind [Lh]
    have j:¬dX b<dX a:=λx=>by grind [Lh]
    exact e (VI (List.le_antisymm (List.not_lt.1 j) (List.not_lt.1 t)))
   ·simp[e]
  ·grind [mI,adv,UB]
def Ci:Option ByteArray->List cZ->Option ByteArray
 | p,[]=>p
 | _,x :: r=>Ci (some x.1) r
def behind(p:Option ByteArray)(s:ByteArray):Bool:=match p with|none=>true|some y=>mI y s
def jW:Option ByteArray->List cZ->Bool
 | _,[]=>true
 | p,x :: r=>ll x&&behind p x.1&&jW (some x.1) r
def fN(l:List cZ):Bool:=decide (1<=l.length)&&decide (l.length<=16)&&jW none l
def ko(l:List cZ):Int:=if fN l then 0 else 40
theorem apF p a b:Ci p (a++b)=Ci (Ci p a) b:=by
 induction a generalizing p with
 | nil=>rfl
 | cons x a j=>simp only[aR,Ci];exact j _
theorem acQ p a b:jW p (a++b)=(jW p a&&jW (Ci p a) b):=by
 induction a generalizing p with
 | nil=>simp[jW,Ci]
 | cons x a j=>simp only[aR,jW,Ci,j,Bool.and_assoc]
theorem arD(l:List cZ) k(h:k<l.length):Ci none (l.take (k+1))=some l[k].1:=by rw[gJ h,apF];rfl
theorem auZ(l:List cZ)(h:0<l.length):jW none (l.take 1)=ll l[0]:=by
 grind [gJ,jW,behind]
theorem au0(l:List cZ)(k:Nat)(h:k+1<l.length):jW none (l.take (k+1+1))=(jW none (l.take (k+1))&&(ll l[k+1]&&mI (l[k]'af).1 l[k+1].1)):=by
 grind [gJ,acQ,arD,jW,behind]
theorem awK l k(h:jW none (l.take k)=false):jW none l=false:=by
 grind [acQ,List.take_append_drop]
theorem awL l k(h:jW none (l.take k)=false):ko l=40:=by grind [ko,fN,awK]
theorem au1 l(t:1<=l.length)(j:l.length<=16)(h:jW none (l.take l.length)=true):ko l=0:=by
 grind [jW,ko,fN]
abbrev azF(x:cZ):Value:=.agg #[.string x.1,.int .i64 x.2.1,.int .i64 x.2.2.1,.string x.2.2.2]
theorem PR(l:List cZ) k(hk:k<l.length):∀j,(t:j<4)->(l.flatMap nI)[k*4+j]?=some ((nI l[k])[j]'t):=by intro j t;rw[List.flatMap_def,yx 4 _ aA k j aA t];simp[hk]
theorem au2(l:List cZ):(l.flatMap nI).length=l.length*4:=by rw[List.flatMap_def,BQ 4 _ aA];simp
theorem Reads.Ri{w B n A}{l:List cZ}(h:Reads w B 4 A n (l.flatMap nI))(D:0<l.length) :
 ∃b j,A=some ⟨b,j,none⟩/\b<B/\∀k (hk:k<l.length),w.cell? ⟨b,j+k*4,none⟩=some (.string l[k].1)/\w.cell? ⟨b,j+k*4+1,none⟩=some (.int .i64 l[k].2.1) /\
  w.cell? ⟨b,j+k*4+2,none⟩=some (.int .i64 l[k].2.2.1)/\w.cell? ⟨b,j+k*4+3,none⟩=some (.string l[k].2.2.2):=by
 obtain⟨b,j,e,hb,t⟩:=h.2 (by grind [au2])
 refine⟨b,j,e,hb,λk hk=>?_⟩
 have u:=t _ _ (PR l k hk 0 ax)
 have E:=t _ _ (PR l k hk 1 ax)
 have C:=t _ _ (PR l k hk 2 ax)
 have y:=t _ _ (PR l k hk 3 ax)
 grind
theorem below_drewN{B w w'}(h:Below B w w') n:Below B w (w'.drewN n):=by
 induction n with
 | zero=>exact h
 | succ n j=>exact⟨h.os,h.tape,h.output,h.size,h.block⟩
def ji(l:List cZ)(v:Value)(w:World):Prop:=∃A c,v=.slice A l.length c/\Reads w w.heap.size 4 A l.length (l.flatMap nI)
theorem qC l:∀v w w',ji l v w->Below w.heap.size w w'->ji l v w':=afd
theorem str{w v l}(h:sl l v w):(convert 94 9 v).run prog w=.ok (.string ⟨l.toArray⟩) w :=
 ayh _ _ _ underlying94 underlying5 underlying9 h
def tL(l:List UInt8)(wr:Bool):cZ×List UInt8×Bool :=
 ((⟨(aL 16 l wr).1.toArray⟩,(fE (aL 16 l wr).2.1 (aL 16 l wr).2.2).1.1,(fE (aL 16 l wr).2.1 (aL 16 l wr).2.2).1.2.1,⟨(fE (aL 16 l wr).2.1 (aL 16 l wr).2.2).1.2.2.toArray⟩),(fE (aL 16 l wr).2.1 (aL 16 l wr).2.2).2)
def gq:Nat->List UInt8->Bool->List cZ×List UInt8×Bool
 | 0,l,wr=>([],l,wr)
 | k+1,l,wr=>((gq k l wr).1++[(tL (gq k l wr).2.1 (gq k l wr).2.2).1],(tL (gq k l wr).2.1 (gq k l wr).2.2).2)
def Gk(b:List UInt8):List cZ×List UInt8×Bool:=gq (aw b false).1 (aw b false).2.1 (aw b false).2.2
def tF(b:List UInt8):Option (List cZ) :=
 if decide ((aw b false).1<=16)&&!(Gk b).2.2&&(Gk b).2.1.isEmpty&&fN (Gk b).1 then some (Gk b).1 else none
def yT(b:List UInt8):List cZ:=(tF b).getD []
def yU(b:List UInt8):Int:=if (tF b).isSome then 0 else 40
theorem PS l wr:(fE l wr).2.1.length<=l.length:=by
 grind [nV,aw,DQ,fE]
theorem afe l wr:cD (fE l wr).1.1/\cD (fE l wr).1.2.1:=by
 grind [fE,Vf,IE,cD]
theorem awM l wr:(tL l wr).2.1.length<=l.length :=
 bn (PS _ _) (DQ 16 l wr)
theorem Vg k l wr:(gq k l wr).2.1.length<=l.length/\(gq k l wr).1.length=k:=by
 induction k with
 | zero=>exact⟨aD _,rfl⟩
 | succ k j=>exact⟨bn (awM _ _) j.1,by grind [gq]⟩
theorem IG j l wr:(aL j l wr).1.length<=j.toNat:=by
 grind [aL]
theorem au3 k l wr:∀x∈(gq k l wr).1,(cD x.2.1/\cD x.2.2.1)/\x.1.size<=16:=by
 induction k with
 | zero=>simp[gq]
 | succ k t =>
  intro x j;rcases List.mem_append.1 j with j|j
  ·grind
  ·simp only[List.mem_singleton]at j;subst j;exact⟨afe _ _,IG 16 _ _⟩
theorem awN:(prog.info? 76).map (λi=>(i.zero,i.size,i.bytes))=some (some (.agg #[.string { data:=#[] },.int .i64 0,.int .i64 0,.string { data:=#[] }]),4,48):=by rfl
theorem TE:fY prog 51 76 (.agg #[.string { data:=#[] },.int .i64 0,.int .i64 0,.string { data:=#[] }]) 4 48:=⟨underlying51,awN,rfl,ax⟩
abbrev qM(w:World)(base:Nat)(v:Value)(l:List cZ):Prop:=w.ownsRow base 76 4 v l.length (l.flatMap nI)
theorem qM.slice{w base v l}(h:qM w base v l):∃A c,v=.slice A l.length c/\Reads w w.heap.size 4 A l.length (l.flatMap nI)/\l.length<=c/\c<=maxLen:=aff
theorem mN{w:World}{base base' e size n v xs}(hb:base<=base')(h:w.ownsRow base' e size v n xs):w.ownsRow base e size v n xs:=aeU
theorem qv{w w' base e size n v xs}(h:w.ownsRow base e size v n xs)(hb:Below w.heap.size w w'):w'.ownsRow base e size v n xs:=aeV
theorem Li{w w':World}{base g e size n v xs}(h:w.ownsRow base e size v n xs)(hb:w.grownBy w' (some g))(hg:g<base):w'.ownsRow base e size v n xs :=
 World.ownsRow.kept h hb (.inr (by
  intro e;have:=(h.lt g e).1;omega))
theorem aei x:∀u∈nI x,u.oneCell'=true:=by intro u j;simp at j;rcases j with rfl|rfl|rfl|rfl <;> rfl
theorem afg{w base v l}(h:qM w base v l):ji l v w:=by
 obtain⟨A,c,rfl,j,_⟩:=h.slice
 grind [ji]
section
open Go Go.RowKit Go.ChangeShapes Go.WideShapes Go.ChangeAt
abbrev dH:=ByteArray×Int×Int×Int×ByteArray
abbrev fR(x:dH):List Value:=[.string x.1,.int .i64 x.2.1,.int .i64 x.2.2.1,.int .i64 x.2.2.2.1,.string x.2.2.2.2]
abbrev rO(x:dH):Value:=.agg #[.string x.1,.int .i64 x.2.1,.int .i64 x.2.2.1,.int .i64 x.2.2.2.1,.string x.2.2.2.2]
def jB(x:dH):Prop:=cD x.2.1/\cD x.2.2.1/\cD x.2.2.2.1
theorem Lj(l:List dH) k(hk:k<l.length):∀j,(t:j<5)->(l.flatMap fR)[k*5+j]?=some ((fR l[k])[j]'t):=by intro j t;rw[List.flatMap_def,yx 5 _ afh k j aA t];simp[hk]
theorem au4(l:List dH):(l.flatMap fR).length=l.length*5:=by rw[List.flatMap_def,BQ 5 _ afh];simp
theorem Reads.Mc{w B n A}{l:List dH}(h:Reads w B 5 A n (l.flatMap fR))(E:0<l.length) :
 ∃b j,A=some ⟨b,j,none⟩/\b<B/\∀k (hk:k<l.length),w.cell? ⟨b,j+k*5,none⟩=some (.string l[k].1)/\w.cell? ⟨b,j+k*5+1,none⟩=some (.int .i64 l[k].2.1) /\
  w.cell? ⟨b,j+k*5+2,none⟩=some (.int .i64 l[k].2.2.1)/\w.cell? ⟨b,j+k*5+3,none⟩=some (.int .i64 l[k].2.2.2.1)/\w.cell? ⟨b,j+k*5+4,none⟩=some (.string l[k].2.2.2.2):=by
 obtain⟨b,j,e,hb,t⟩:=h.2 (by grind [au4])
 refine⟨b,j,e,hb,λk hk=>?_⟩
 have C:=t _ _ (Lj l k hk 0 ax)
 have F:=t _ _ (Lj l k hk 1 ax)
 have u:=t _ _ (Lj l k hk 2 ax)
 have y:=t _ _ (Lj l k hk 3 ax)
 have D:=t _ _ (Lj l k hk 4 ax)
 grind
def fF(l:List dH)(v:Value)(w:World):Prop:=∃A c,v=.slice A l.length c/\Reads w w.heap.size 5 A l.length (l.flatMap fR)
theorem eO l:∀v w w',fF l v w->Below w.heap.size w w'->fF l v w':=afd
section
variable {H:Type} {enc:TypeId×Value->H} {w:World} {base:Nat} {r:Reach} {b0:Nat} {spare:Nat->Bool} {held:Bool} {v:Value} {d:DataW H} {p:List MemPlace}
end
end
abbrev Bc(α:Type):=List UInt8->Bool->α×List UInt8×Bool
structure Ef{α:Type}(enc:α->List UInt8)(ok:α->Prop)(rd:Bc α):Prop where
 fwd:∀x,ok x->∀rest,rd (enc x++rest) false=(x,rest,false)
 back:∀l wr,(rd l wr).2.2=false->l=enc (rd l wr).1++(rd l wr).2.1/\wr=false
 len:∀l wr,(rd l wr).2.1.length<=l.length
def di{α:Type}(rd:Bc α):Nat->Bc (List α)
 | 0,l,wr=>([],l,wr)
 | k+1,l,wr=>((di rd k l wr).1++[(rd (di rd k l wr).2.1 (di rd k l wr).2.2).1],(rd (di rd k l wr).2.1 (di rd k l wr).2.2).2)
section
variable {α:Type} {enc:α->List UInt8} {ok:α->Prop} {rd:Bc α}
theorem Ef.bad(C:Ef enc ok rd) l:(rd l true).2.2=true:=by
 cases h:(rd l true).2.2 with
 | true=>rfl
 | false=>have:=(C.back l true h).2;cases this
theorem Lk(C:Ef enc ok rd) k l wr:(di rd k l wr).2.1.length<=l.length/\(di rd k l wr).1.length=k:=by
 induction k with
 | zero=>exact⟨aD _,rfl⟩
 | succ k j=>exact⟨bn (C.len _ _) j.1,by grind [di]⟩
theorem VJ(C:Ef enc ok rd){k l wr}(h:(di rd k l wr).2.2=true):∀d,(di rd (k+d) l wr).2.2=true
 | 0=>h
 | d+1=>by have:=VJ C h d;show (rd (di rd (k+d) l wr).2.1 (di rd (k+d) l wr).2.2).2.2=true;rw[this];exact C.bad _
theorem afi(p:α->Prop)(hp:∀l wr,p (rd l wr).1) k l wr:∀x∈(di rd k l wr).1,p x:=by
 induction k with
 | zero=>simp[di]
 | succ k j =>
  grind [di]
theorem afj(C:Ef enc ok rd)(l:List α)(h:∀x∈l,ok x) rest:∀k,k<=l.length->di rd k (l.flatMap enc++rest) false=(l.take k,(l.drop k).flatMap enc++rest,false):=by
 intro k
 induction k with
 | zero=>intro _;simp[di]
 | succ k ih => intro hk;have hk':k<l.length:=af;have hd:l.drop k=l[k] :: l.drop (k+1):=aj;have hx:=h l[k] (bZ hk');show ((di rd k (l.flatMap enc++rest) false).1++[(rd (di rd k (l.flatMap enc++rest) false).2.1 (di rd k (l.flatMap enc++rest) false).2.2).1],(rd (di rd k (l.flatMap enc++rest) false).2.1 (di rd k (l.flatMap enc++rest) false).2.2).2)=_;exact afk
theorem aej(C:Ef enc ok rd){k l wr}(h:(di rd k l wr).2.2=false):l=(di rd k l wr).1.flatMap enc++(di rd k l wr).2.1/\wr=false:=by
 induction k with
 | zero=>exact⟨cV,h⟩
 | succ k t => obtain⟨e1,j⟩:=C.back (di rd k l wr).2.1 (di rd k l wr).2.2 h;obtain⟨e2,u⟩:=t j;refine⟨?_,u⟩;show l=((di rd k l wr).1++[(rd (di rd k l wr).2.1 (di rd k l wr).2.2).1]).flatMap enc++(rd (di rd k l wr).2.1 (di rd k l wr).2.2).2.1;exact afl
end
def nf(s:ByteArray)(x:cZ):Bool:=decide (x.1=s)
def Cj(l:List cZ)(s:ByteArray):Value:=match l.find? (nf s)with|some x=>.tuple #[vv x.2.1 x.2.2.1 x.2.2.2,.bool true]|none=>.tuple #[vv 0 0 { data:=#[] },.bool false]
theorem Vh(l:List cZ) s k(hk:k<l.length)(h:nf s l[k]=true)(j:∀x∈l.take k,nf s x=false):l.find? (nf s)=some l[k]:=by
 grind [List.getElem_cons_drop,List.take_append_drop,List.find?_eq_none,List.find?_cons_of_pos]
theorem as3(l:List cZ) s(t:∀x∈l,nf s x=false):l.find? (nf s)=none:=List.find?_eq_none.2 λx j=>by simp[t x j]
theorem aek(s:ByteArray):∀l:List cZ,(∃k,∃hk:k<l.length,nf s l[k]=true/\∀x∈l.take k,nf s x=false)∨∀x∈l,nf s x=false
 | []=>.inr aj
 | y :: l=>by
  cases h:nf s y with
  | true=>exact .inl ⟨0,aj,BX,aj⟩
  | false =>
   rcases aek s l with ⟨k,hk,h1,t⟩|h1
   ·refine .inl ⟨k+1,tk,BZ,?_⟩;intro x j;rw[Yb]at j;rcases List.mem_cons.1 j with rfl|j
    ·exact h
    ·exact t x j
   ·refine .inr λx j=>?_
    rcases List.mem_cons.1 j with rfl|j
    ·exact h
    ·exact h1 x j
theorem KO(a b:ByteArray):a.toList=b.toList↔a=b:=by
 grind [ByteArray.toList_eq,VI]
theorem arE k n u t s j w d:(Op.equalIn (d+1+1) 71 (vv k n s) (vv u t j)).run prog w=.ok (decide ((k,n,s)=(u,t,j))) w:=by
 simp[go_sem,KO]
 grind
theorem awO k n u t s j w:(binOp .eql 71 (vv k n s) (vv u t j)).run prog w=.ok (.bool (decide ((k,n,s)=(u,t,j)))) w:=by rw[run_eql_struct,arE k n u t s j w 9998];rfl
abbrev Vl:=Int×Int×ByteArray
def iu(a b:Int):Int:=if a<b then -1 else if b<a then 1 else 0
def yV(a b:ByteArray):Int:=if mI a b then -1 else if mI b a then 1 else 0
def fS(a b:Vl):Int:=if iu a.1 b.1 != 0 then iu a.1 b.1 else if iu a.2.1 b.2.1 != 0 then iu a.2.1 b.2.1 else yV a.2.2 b.2.2
def preB(a b:ByteArray):Bool:=decide (b.size<=a.size)&&((a.extract 0 b.size).toList==b.toList)
def kp(a b:Vl):Bool:=a.1==2&&b.1==2&&preB a.2.2 b.2.2
def jj(t:dH)(v:Vl):Bool :=
 if t.2.1==8 then true else
 (v.1==t.2.2.1)&&(if t.2.1==1 then fS v t.2.2==0 else if t.2.1==2 then fS v t.2.2 != 0 else if t.2.1==3 then decide (fS v t.2.2<0)else if t.2.1==4 then decide (fS v t.2.2<=0)
  else if t.2.1==5 then decide (0<fS v t.2.2)else if t.2.1==6 then decide (0<=fS v t.2.2)else if t.2.1==7 then kp v t.2.2 else false)
def qD(t:dH)(e:List cZ):Bool:=match e.find? (nf t.1)with|some x=>jj t x.2|none=>false
def mO(f:List dH)(e:List cZ):Bool:=f.all λt=>qD t e
def gD(t:dH):Bool :=
 tv t.1&&(if t.2.1==8 then decide (t.2.2=(0,0,⟨#[]⟩))else if t.2.1==7 then iY t.2.2.1 t.2.2.2.1 t.2.2.2.2&&t.2.2.1==2 else decide (1<=t.2.1)&&decide (t.2.1<=8)&&iY t.2.2.1 t.2.2.2.1 t.2.2.2.2)
def okF(l:List dH):Bool:=decide (l.length<=8)&&l.all gD
def AK(t:dH):Int:=if gD t then 0 else 50
def mW(l:List dH):Int:=if okF l then 0 else 50
def ku(t:dH):List UInt8:=(az t.1.size++dX t.1)++(az (bf t.2.1)++(if t.2.1==8 then []else nZ t.2.2.1 t.2.2.2.1 t.2.2.2.2))
def jC(l:List dH):List UInt8:=az l.length++l.flatMap ku
def Ck(l:List dH):List UInt8:=if okF l then jC l else []
def gA:Bc dH:=λl wr =>
 if 8<(aw (aL 16 l wr).2.1 (aL 16 l wr).2.2).1 then ((⟨#[]⟩,0,0,0,⟨#[]⟩),(aw (aL 16 l wr).2.1 (aL 16 l wr).2.2).2.1,true)
 else if (aw (aL 16 l wr).2.1 (aL 16 l wr).2.2).1=8 then ((⟨(aL 16 l wr).1.toArray⟩,8,0,0,⟨#[]⟩),(aw (aL 16 l wr).2.1 (aL 16 l wr).2.2).2)
 else ((⟨(aL 16 l wr).1.toArray⟩,((aw (aL 16 l wr).2.1 (aL 16 l wr).2.2).1:Int),(fE (aw (aL 16 l wr).2.1 (aL 16 l wr).2.2).2.1 (aw (aL 16 l wr).2.1 (aL 16 l wr).2.2).2.2).1.1,
  (fE (aw (aL 16 l wr).2.1 (aL 16 l wr).2.2).2.1 (aw (aL 16 l wr).2.1 (aL 16 l wr).2.2).2.2).1.2.1,⟨(fE (aw (aL 16 l wr).2.1 (aL 16 l wr).2.2).2.1 (aw (aL 16 l wr).2.1 (aL 16 l wr).2.2).2.2).1.2.2.toArray⟩),
  (fE (aw (aL 16 l wr).2.1 (aL 16 l wr).2.2).2.1 (aw (aL 16 l wr).2.1 (aL 16 l wr).2.2).2.2).2)
def Eg(b:List UInt8):List dH×List UInt8×Bool:=di gA (aw b false).1 (aw b false).2.1 (aw b false).2.2
def rG(b:List UInt8):Option (List dH) :=
 if decide ((aw b false).1<=8)&&!(Eg b).2.2&&(Eg b).2.1.isEmpty&&okF (Eg b).1 then some (Eg b).1 else none
def vY(b:List UInt8):List dH:=(rG b).getD []
def vZ(b:List UInt8):Int:=if (rG b).isSome then 0 else 50
theorem DF{l}(h:okF l=true):l.length<=8/\∀x∈l,gD x=true:=by
 grind [okF,gD]
theorem FD{t}(h:gD t=true):t.1.size<=16/\1<=t.2.1/\t.2.1<=8/\(t.2.1=8->t.2.2=(0,0,⟨#[]⟩))/\(t.2.1≠8->iY t.2.2.1 t.2.2.2.1 t.2.2.2.2=true):=by
 grind [gD,iY,tv]
theorem awP l wr:(gA l wr).2.1.length<=l.length:=by
 grind [DQ,nV,aL,PS,aw,gA]
theorem awQ t(h:gD t=true/\jB t) rest:gA (ku t++rest) false=(t,rest,false):=by
 obtain⟨y,j⟩:=h;obtain⟨D,G,h8,B,u⟩:=FD y;obtain⟨s,op,k,n,x⟩:=t;simp only at D G h8 B u j;have hk:bf op=op.toNat:=by grind [bf]
 have C:aL 16 (ku (s,op,k,n,x)++rest) false=(dX s,az (bf op)++(if op==8 then []else nZ k n x)++rest,false):=by
  have:=FI 16 (dX s) ba ba (az (bf op)++(if op==8 then []else nZ k n x)++rest)
  rw[show (dX s).length=s.size by simp]at this
  unfold ku
  grind
 have A:=rD (bf op) (gP op) ((if op==8 then []else nZ k n x)++rest);unfold gA;rw[C];simp only;rw[eu (az (bf op)),A];simp only;rw[if_neg af];by_cases F:op=8
 ·simp_all
 ·rw[if_neg af,if_neg aA];have E:=aeh k n x (u F) j.2.2.1 j.2.2.2 rest;rw[E];cases s;grind [Prod.mk.injEq]
theorem au5 l wr(h:(gA l wr).2.2=false):l=ku (gA l wr).1++(gA l wr).2.1/\wr=false:=by
 have E:=nX (aL 16 l wr).2.1 (aL 16 l wr).2.2;unfold gA at h⊢;split at h
 ·cases h
 ·rename_i h8;rw[if_neg h8];split at h
  ·rename_i j;rw[if_pos j];obtain⟨u,t⟩:=ud h;obtain⟨A,_,y⟩:=DN t;refine⟨?_,y⟩;unfold ku;simp only;have B:(⟨(aL 16 l wr).1.toArray⟩:ByteArray).size=(aL 16 l wr).1.length:=VK;rw[B,show dX ⟨(aL 16 l wr).1.toArray⟩=(aL 16 l wr).1 by simp[dX]];rw[show bf (8:Int)=(aw (aL 16 l wr).2.1 (aL 16 l wr).2.2).1 by rw[j];rfl];rw[if_pos ax,List.append_nil,eu,<- u];exact A
  ·rename_i j;rw[if_neg j];obtain⟨D,_,C,_⟩:=Vf h;obtain⟨u,t⟩:=ud C;obtain⟨A,_,y⟩:=DN t;refine⟨?_,y⟩;unfold ku;simp only;have B:(⟨(aL 16 l wr).1.toArray⟩:ByteArray).size=(aL 16 l wr).1.length:=VK;rw[B,show dX ⟨(aL 16 l wr).1.toArray⟩=(aL 16 l wr).1 by simp[dX]];rw[show bf ((aw (aL 16 l wr).2.1 (aL 16 l wr).2.2).1:Int)=(aw (aL 16 l wr).2.1 (aL 16 l wr).2.2).1 by unfold bf;omega];rw[if_neg ba,eu,eu (az (aw (aL 16 l wr).2.1 (aL 16 l wr).2.2).1),<- D,<- u];exact A
theorem Iz:Ef ku (λt=>gD t=true/\jB t) gA:=⟨awQ,au5,awP⟩
theorem awR l wr:jB (gA l wr).1/\(gA l wr).1.1.size<=16:=by
 grind [IG,afe,aw,aL,gA,jB,cD,ByteArray.size]
theorem arF l(t:okF l=true)(A:∀x∈l,jB x) rest:aw (jC l++rest) false=(l.length,l.flatMap ku++rest,false)/\Eg (jC l++rest)=(l,rest,false):=by
 obtain⟨B,u⟩:=DF t
 have y:aw (jC l++rest) false=(l.length,l.flatMap ku++rest,false):=by
  grind [jC,eu,rD]
 refine⟨y,?_⟩
 have C:=afj Iz l (λx j=>⟨u x j,A x j⟩) rest l.length (aD _)
 unfold Eg
 grind
theorem au6 l(j:okF l=true)(t:∀x∈l,jB x):rG (jC l)=some l:=by
 have h:=arF l j t []
 rw[List.append_nil]at h
 have u:=(DF j).1
 unfold rG
 grind
theorem adw{b y}(h:rG b=some y):b=jC y/\okF y=true/\∀x∈y,jB x:=by
 unfold rG at h;split at h
 ·rename_i u;injection h with h;simp only[dC,Bool.not_eq_true',List.isEmpty_iff,decide_eq_true_eq]at u;obtain⟨⟨⟨G,C⟩,B⟩,j⟩:=u;unfold Eg at C B j h;obtain⟨t,D⟩:=aej Iz C;obtain⟨E,_⟩:=ud D;have A:=(Lk Iz (aw b false).1 (aw b false).2.1 (aw b false).2.2).2;have hfit:=afi (λx:dH=>jB x/\x.1.size<=16) awR (aw b false).1 (aw b false).2.1 (aw b false).2.2;rw[h]at t A j hfit;rw[B,List.append_nil]at t;refine⟨?_,j,λx F=>(hfit x F).1⟩;unfold jC;rw[A,<- t];exact E
 ·cases h
theorem as4 t w :
 Calls prog 313 #[rO t] w λe w'=>e=.returned (.int .i64 (AK t))/\Below w.heap.size w w':=by
 obtain⟨s,op,k,n,x⟩:=t
 have hb0:Below w.heap.size w (w.alloc (.cells #[.string s,.int .i64 op,.int .i64 k,.int .i64 n,.string x] 73)):=(cT _ _).alloc (aD _) _
 have E:=ai.new w 73 #[.string s,.int .i64 op,.int .i64 k,.int .i64 n,.string x]
 have HT:Hid (gD (s,op,k,n,x)=(tv s&&(if op==8 then decide ((k,n,x)=(0,0,(⟨#[]⟩:ByteArray)))else if op==7 then iY k n x&&k==2 else decide (1<=op)&&decide (op<=8)&&iY k n x))):=ae rfl
 have rN:Hid (gD (s,op,k,n,x)=false->AK (s,op,k,n,x)=50):=ae (λh=>by simp[AK,h])
 have B:Hid (gD (s,op,k,n,x)=true->AK (s,op,k,n,x)=0):=ae (λh=>by simp[AK,h])
 go_enter func313,ntmps313
 go_wp2_with fail
 apply aM (Uz s _)
 rintro w' rfl
 cases hn:tv s
 ·have HE:=ae (rN.aa (by rw[HT.aa,hn];rfl));go_wp2;go_ret;exact⟨iK,hb0⟩
 by_cases D:op<1
 ·exact afm
 by_cases h8:8<op
 ·exact afm
 go_wp2_with fail
 apply aM (O3 k n x _)
 intro O C
 have u:=E.ay C
 have dP:=hb0.trans (C.mono hb0.size)
 have M:=u.cell 1
 have I:=u.cell 2
 have H:=u.cell 3
 have J:=u.cell 4
 simp at M I H J
 have HC:Hid ((mH k n x==0)=iY k n x):=ae (by unfold mH;cases iY k n x <;> rfl)
 clear C hb0 E
 by_cases j:op=7
 ·have HE:Hid (gD (s,op,k,n,x)=(iY k n x&&k==2)):=by simp_all
  have L:(op==7)=true:=by simp[j]
  have F:(op==8)=false:=by simp[j]
  clear j D h8;cases hv:iY k n x
  ·have A:(mH k n x==0)=false:=PT;have HF:=ae (rN.aa (by rw[HE.aa,hv];rfl));exact FT
  ·have A:(mH k n x==0)=true:=PT;cases hk:(k==2)
   ·have HF:=ae (rN.aa afn);exact FT
   ·have HF:=ae (B.aa afn);exact FT
 ·have L:(op==7)=false:=by simp[j]
  by_cases y:op=8
  ·have HE:Hid (gD (s,op,k,n,x)=decide ((k,n,x)=(0,0,(⟨#[]⟩:ByteArray)))):=by simp_all
   have F:(op==8)=true:=by simp[y]
   clear y D h8 j;have N:=awO k n 0 0 x ⟨#[]⟩;generalize G:decide ((k,n,x)=(0,0,(⟨#[]⟩:ByteArray)))=d at *;have Q:=ae G;clear G;cases d
   ·have HF:=ae (rN.aa Ll);exact FT
   ·have HF:=ae (B.aa Ll);exact FT
  ·have HE:Hid (gD (s,op,k,n,x)=iY k n x):=by simp_all
   have F:(op==8)=false:=by simp[y]
   clear y D h8 j;cases hv:iY k n x
   ·have A:(mH k n x==0)=false:=PT;have HF:=ae (rN.aa (by rw[HE.aa,hv]));exact FT
   ·have A:(mH k n x==0)=true:=PT;have HF:=ae (B.aa (by rw[HE.aa,hv]));exact FT
theorem awS l k(h:k<l.length)(hb:gD l[k]=false):mW l=50:=by
 grind [gD,mW,okF]
theorem au7 l(h8:l.length<=8)(h:∀x∈l.take l.length,gD x=true):mW l=0:=by
 grind [gD,mW,okF]
theorem as5(l:List dH)(k:Nat)(h:k<l.length)(ha:∀x∈l.take k,gD x=true)(hb:gD l[k]=true):∀x∈l.take (k+1),gD x=true:=afo
theorem arG t:(AK t=0/\gD t=true)∨(AK t=50/\gD t=false):=by
 grind [AK,gD]
theorem Um A c l w B(H:Reads w B 5 A l.length (l.flatMap fR))(hB:B<=w.heap.size) :
 Calls prog 287 #[.slice A l.length c] w λe w'=>e=.returned (.int .i64 (mW l))/\Below w.heap.size w w':=by
 by_cases h8:8<l.length
 ·have S:(8:Int)<(l.length:Int):=af;have HE:Hid (mW l=50):=ae (by simp[mW,okF,show ¬l.length<=8 by omega]);clear H;generalize l.length=n at *;go_enter func287,ntmps287;go_wp2;go_ret;exact⟨iK,cT _ _⟩
 have S:¬(8:Int)<(l.length:Int):=af
 have V:=ae H
 clear H
 go_enter func287,ntmps287
 go_wp2_with fail
 go_loopw [11] (fun i wr=>∃k:Nat,k<=l.length/\i=.int .i64 k/\Hid (∀x∈l.take k,gD x=true)/\Below w.heap.size w wr) (fun i _=>l.length-(intOf i).toNat)
 case atStart=>exact⟨0,af,rfl,ae aj,cT _ _⟩
 case round =>
  obtain⟨k,hk,rfl,R,hb⟩:=hrel;by_cases G:k<l.length
  ·have fM:(k:Int)<l.length:=af;obtain⟨b,t,rfl,W,Q⟩:=V.aa.Mc af;obtain⟨N,J,M,L,I⟩:=Q k G;have y:=bz W hB;have d0:=(hb.cell (p:=⟨b,t+k*5,none⟩) y).trans N;have d1:=(hb.cell (p:=⟨b,t+k*5+1,none⟩) y).trans J;have d2:=(hb.cell (p:=⟨b,t+k*5+2,none⟩) y).trans M;have d3:=(hb.cell (p:=⟨b,t+k*5+3,none⟩) y).trans L;have Y:=(hb.cell (p:=⟨b,t+k*5+4,none⟩) y).trans I;have X:=ae (as5 l k G R.aa);have T:=ae (awS l k G);have hz:=hb.size;clear N J M L I Q;generalize l[k]=x at *;obtain⟨xs,C,F,E,D⟩:=x;simp only at d0 d1 d2 d3 Y;go_wp2_with fail
   apply aM (as4 (xs,C,F,E,D) _);intro w2 U;have O:=(hb.alloc hz _).trans (U.mono ba);rcases arG (xs,C,F,E,D)with ⟨j,u⟩|⟨j,u⟩
   ·have hne:(AK (xs,C,F,E,D) != 0)=false:=by rw[j];rfl
    have hr:=ae (X.aa u);clear j u;go_wp2;go_roundw
    case rel=>exact⟨k+1,af,bI,hr,O⟩
    case measure=>simp[intOf];omega
   ·have hne:(AK (xs,C,F,E,D) != 0)=true:=by rw[j];rfl
    have HE:=ae (T.aa u);have Z:=ae j;clear j u;go_wp2;go_ret;exact⟨by rw[HE.aa,<- Z.aa];rfl,O⟩
  ·have fM:¬(k:Int)<l.length:=af;have HE:=ae (au7 l af (by
    have:=R.aa;rwa [show k=l.length by omega]at this))
   go_wp2;exact PU
theorem acR{l v w}(h:fF l v w):Calls prog 287 #[v] w λe w'=>e=.returned (.int .i64 (mW l))/\Below w.heap.size w w':=by obtain⟨A,c,rfl,j⟩:=h;exact Um A c l w _ j (aD _)
