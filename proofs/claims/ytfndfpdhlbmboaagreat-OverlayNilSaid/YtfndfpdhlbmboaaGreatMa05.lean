/-
  A region that draws its order: operations that only make memory, in any order; among them some that change memory, one behind the other; then operations that follow one another. Conditions: none.
-/
import Derived.Test.YtfndfpdhlbmboaaGreatMa04
import Derived.Test.YtfndfpdhlbmboaaGreatMz
set_option maxRecDepth 100000
set_option maxHeartbeats 16000000
set_option linter.unusedVariables false
set_option linter.unusedSimpArgs false
namespace Go.Proofs.YtfndfpdhlbmboaaGreat
open Go Go.RowKit _root_.Go.Proofs.Tryz
section
variable {P:Program} {Q:Exit->Act->World->Prop}
def au(P:Program)(y:Act)(R:World->Prop)(S:World->World->Prop)(u:List Nat)(A:List Oper->List (List Nat×List (Nat×Nat))->List (Value->World->Prop)->Prop):Nat->List Oper->List (List Nat×List (Nat×Nat))->List (Value->World->Prop)->Prop
 | 0,r,xs,t=>A r xs t
 | _+1,[],_,_=>False
 | _+1,_ :: _,[],_=>False
 | m + 1,o :: r,x :: xs,t=>(u.contains t.length=true/\∃ψ:Value->Prop,au P y R S u A m r xs (t++[λv _=>ψ v]))∨(u.contains t.length=false/\∃φ:Value->World->Prop,(∀v w w',φ v w->S w w'->φ v w') /\
  (∀(V:Nat->Value) (w:World),R w->(∀j∈x.1,tab t j (V j) w)->if bP V o.guard=true then cN P φ w ((execOp (aE x.2 y V) (aF o.op o.type)).run P w)else φ undef w) /\
  au P y R S u A m r xs (t++[φ]))
def IQ(P:Program)(y:Act)(ops:Array Oper)(A:List (List Nat×List (Nat×Nat)))(R:World->Prop)(S:World->World->Prop)(u:List Nat)(D:Nat->List Value->World->Prop)(t:List (Value->World->Prop)):Nat->List Nat->Prop
 | _,[]=>True
 | k,i :: r=>(∃o x,ops[i]?=some o/\A[i]?=some x/\o.guard=none/\∀(V:Nat->Value) (W:World),R W->D k (u.map V) W->(∀j∈x.1,tab t j (V j) W) ->
  jM P (λv W'=>R W'/\S W W'/\D (k+1) ((u.map V).set k v) W'/\tab t i v W') ((execOp (aE x.2 y V) (aF o.op o.type)).run P W))/\IQ P y ops A R S u D t (k+1) r
theorem IQ.at{y ops A R S u D t} :
 ∀(l:List Nat) (k:Nat),IQ P y ops A R S u D t k l->∀(j i:Nat),l[j]?=some i->∃o x,ops[i]?=some o/\A[i]?=some x/\o.guard=none/\∀(V:Nat->Value) (W:World),R W->D (k+j) (u.map V) W->(∀j∈x.1,tab t j (V j) W) ->
  jM P (λv W'=>R W'/\S W W'/\D (k+j+1) ((u.map V).set (k+j) v) W'/\tab t i v W') ((execOp (aE x.2 y V) (aF o.op o.type)).run P W)
 | [],_,_,j,i,h=>wQ
 | _ :: r,k,h,0,i,e=>by simp at e;subst e;exact h.1
 | _ :: r,k,h,j+1,i,e=>by have:=IQ.at r (k+1) h.2 j i KW;rwa [show k+1+j=k+(j+1) by omega]at this
def DN(u:List (List Nat×List (Nat×Nat)))(t:List Nat)(m:Nat):Bool :=
 t.all (λi=>decide (i<m))&&(List.range t.length).all λk=>(List.range k).all λj=>pS u (t.getD j 0) u.length (t.getD k 0)
theorem asT{ops:Array Oper}{B R S A D} :
 ∀(m:Nat) (l:List Oper) (u:List (List Nat×List (Nat×Nat))) (t:List (Value->World->Prop)),
  au P B R S A D m l u t->(m<=l.length)->(∀i o x,ops[t.length+i]?=some o->l[i]?=some o->u[i]?=some x->∀j∈x.1,j<t.length+i)->(∀i o,l[i]?=some o->ops[t.length+i]?=some o) ->
  (∀φ∈t,∀v w w',φ v w->S w w'->φ v w') ->
  ∃s,D (l.drop m) (u.drop m) (t++s)/\s.length=m/\(∀φ∈t++s,∀v w w',φ v w->S w w'->φ v w')/\∀i o x,i<m->l[i]?=some o->u[i]?=some x->A.contains (t.length+i)=false->ajv P B R (tab (t++s)) (t.length+i) o.op o.type o.guard x.1 x.2:=by
 intro m
 induction m with
 | zero => intro l u t h _ _ _ C;exact⟨[],by grind [au],rfl,by simpa using C,λi o x W=>af⟩
 | succ m U =>
  intro l u t h T J G C
  cases l with
  | nil=>exact False.elim h
  | cons o r =>
  cases u with
  | nil=>exact False.elim h
  | cons x xs =>
   obtain⟨φ,st,N,X⟩:∃φ:Value->World->Prop,(∀v w w',φ v w->S w w'->φ v w')/\au P B R S A D m r xs (t++[φ]) /\
    (A.contains t.length=true∨(A.contains t.length=false/\∀(V:Nat->Value) (w:World),R w->(∀j∈x.1,tab t j (V j) w)->if bP V o.guard=true then cN P φ w ((execOp (aE x.2 B V) (aF o.op o.type)).run P w)else φ undef w)):=by
    rcases h with ⟨h1,ψ,h2⟩|⟨h1,φ,h2,h3,h4⟩
    ·grind
    ·grind
   have e:(t++[φ]).length=t.length+1:=aj;obtain⟨s,L,Y,I,F⟩:=U r xs (t++[φ]) N (by simpa using T)
    (λi o' E h1 h2 h3 j y=>by
     rw[e]at h1⊢;have:=J (i+1) o' E (by rwa [show t.length+(i+1)=t.length+1+i by omega]) xU KX j y;omega)
    (λi o' h1=>by
     rw[e,show t.length+1+i=t.length+(i+1) by omega];exact G (i+1) o' Bo)
    (fun ψ Q=>by
     rcases List.mem_append.1 Q with h1|h1
     ·exact C ψ h1
     ·simp at h1;subst h1;exact st)
   have M:tab (t++φ :: s) t.length=φ:=by unfold tab;funext v w;simp[List.getD_eq_getElem?_getD]
   have Z:∀j,j<t.length->tab (t++φ :: s) j=tab t j:=by intro j y;unfold tab;funext v w;simp only[List.getD_eq_getElem?_getD];rw[List.getElem?_append_left y]
   have O:t++[φ]++s=t++φ :: s:=aj;rw[O]at L I F;refine⟨φ :: s,L,by simp[Y],I,?_⟩
   ·intro i o' E W h1 h2 H;cases i with
    | zero =>
     simp at h1 h2;subst h1 h2;intro V w hk hp;rw[Nat.add_zero,M];rcases X with h|⟨_,ho⟩
     ·rw[Nat.add_zero,h]at H;cases H
     ·exact ho V w hk λj y=>by have hlt:=J 0 o x (G 0 o aj) aj aj j y;have:=hp j y;rwa [Z j af]at this
    | succ i => have:=F i o' E af Bo xU (by rwa [e,show t.length+1+i=t.length+(i+1) by omega]);rwa [e,show t.length+1+i=t.length+(i+1) by omega]at this
theorem auU{ops A t m}(S:uI ops A=true)(I:DN A t m=true)(N:t.Nodup){L}(D:Closed ops L){k i o}(H:t[k]?=some i)(X:ops[i]?=some o)(F:L i=false)(V:∀j∈ahead o,L j=true) :
 (t.filter L).length=k/\(t.filter (upd L i)).length=k+1:=by
 have hk:=(List.getElem?_eq_some_iff.1 H).1
 have B:t[k]=i:=(List.getElem?_eq_some_iff.1 H).2
 simp only[DN,dE]at I
 have Q:∀a b (u:a<b) (hb:b<t.length),pS A (t[a]'af) A.length t[b]=true:=λa b u hb=>by
  have U:=List.all_eq_true.1 (List.all_eq_true.1 I.2 b (List.mem_range.2 hb)) a (List.mem_range.2 u)
  grind
 have W:Closed ops (upd L i):=by
  refine⟨λj o' R y a u=>?_,λj y=>?_⟩
  ·unfold upd;split
   ·rfl
   ·rcases xS y with rfl|y
    ·grind
    ·exact D.1 j o' R y a u
  ·rcases xS y with rfl|y
   ·grind
   ·exact D.2 j y
 have J:∀a (u:a<k),L (t[a]'af)=true:=λa u=>by
  grind [Hu,upd,xS,List.getElem_inj]
 have E:∀a (u:a<t.length),k<a->L t[a]=false:=λa u O=>by
  cases h:L t[a]with
  | false=>rfl
  | true => have:=Hu S D _ _ (Q k a O u) h;rw[B,F]at this;cases this
 have key:∀(M:Nat->Bool) (q:Nat),(∀a (u:a<t.length),M t[a]=decide (a<q))->q<=t.length->(t.filter M).length=q:=by
  intro M q G T;have e:t.filter M=t.take q:=by
   conv=>lhs;rw[<- List.take_append_drop q t]
   rw[List.filter_append,List.filter_eq_self.2 (λx C=>by
    obtain⟨a,u,e⟩:=List.mem_take_iff_getElem.1 C;rw[<- e,G a af];simp;omega),List.filter_eq_nil_iff.2 (λx C=>by
     obtain⟨a,u,e⟩:=List.mem_drop_iff_getElem.1 C;rw[<- e,G];simp),List.append_nil]
  rw[e,nX];omega
 refine⟨key L k (λa u=>?_) af,key (upd L i) (k+1) (λa u=>?_) af⟩
 ·rcases Nat.lt_trichotomy a k with h|h|h
  ·rw[J a h];simp[h]
  ·subst h;rw[B,F];simp
  ·rw[E a u h];simp;omega
 ·unfold upd;rcases Nat.lt_trichotomy a k with h|h|h
  ·rw[J a h];simp;omega
  ·subst h;rw[if_pos B];simp
  ·rw[if_neg (λe=>by rw[<- B]at e;have:=(List.getElem_inj N).1 e;omega),E a u h];simp;omega
theorem auV{V i v}{t:List Nat}(h:i∉t):t.map (ba V i v)=t.map V:=List.map_congr_left λj u=>by unfold ba;rw[if_neg (by rintro rfl;exact h u)]
theorem auW{V k i v}{j:List Nat}(B:j.Nodup)(u:j[k]?=some i):j.map (ba V i v)=(j.map V).set k v:=by
 obtain⟨hk,A⟩:=List.getElem?_eq_some_iff.1 u
 refine List.ext_getElem aj λa t y=>?_
 simp only[List.length_map]at t
 rw[List.getElem_map,List.getElem_set,List.getElem_map]
 unfold ba
 grind [List.getElem_inj]
def Az:Value->Option Nat
 | .map m=>m
 | v=>v.ownBlock
def ajb(P:Program)(u:Act)(ops:Array Oper)(y:List (List Nat×List (Nat×Nat)))(R:World->Prop)(t:List (Value->World->Prop))(ds:List Nat):Prop :=
 ∀k∈ds,∃o x,ops[k]?=some o/\y[k]?=some x/\o.guard=none/\∀(V:Nat->Value) (W:World),R W->(∀j∈x.1,tab t j (V j) W)->∃v W',(execOp (aE x.2 u V) (aF o.op o.type)).run P W=.ok (.value v) W'/\∀b,Az v=some b->W.heap.size<=b/\b<W'.heap.size
def Xy(ds:List Nat)(L:Nat->Bool)(V:Nat->Value):Prop:=∀i∈ds,∀j∈ds,i≠j->L i=true->L j=true->∀b,Az (V i)=some b->Az (V j)≠some b
def QC(ds:List Nat)(L:Nat->Bool)(V:Nat->Value)(W:World):Prop:=(∀i∈ds,L i=true->∀b,Az (V i)=some b->b<W.heap.size)/\Xy ds L V
theorem QC.next{ds L V W W' k v}(h:QC ds L V W)(H:∀i∈ds,W.heap.size<=W'.heap.size)(I:k∈ds->∀b,Az v=some b->W.heap.size<=b/\b<W'.heap.size):QC ds (upd L k) (ba V k v) W':=by
 have key:∀i∈ds,upd L k i=true->∀b,Az (ba V k v i)=some b->b<W'.heap.size/\(i=k->W.heap.size<=b)/\(i≠k->b<W.heap.size):=λi t u b hb=>by
  unfold ba at hb;by_cases y:i=k
  ·grind
  ·rw[if_neg y]at hb;have:=h.1 i t ((xS u).resolve_left y) b hb;grind
 refine⟨λi t u b hb=>(key i t u b hb).1,λi t j E F u C b A B=>?_⟩;have G:=key i t u b A;have J:=key j E C b B;by_cases y:i=k
 ·omega
 ·by_cases D:j=k
  ·omega
  ·unfold ba at A B;rw[if_neg y]at A;rw[if_neg D]at B;exact h.2 i t j E F ((xS u).resolve_left y) ((xS C).resolve_left D) b A B
def azs(P:Program)(u:Act)(ops:Array Oper)(A:List (List Nat×List (Nat×Nat)))(R:World->Prop)(t:List (Value->World->Prop))(y:List (Nat×Nat×(Value->Value))):Prop :=
 ∀q∈y,∃o x,ops[q.1]?=some o/\A[q.1]?=some x/\o.guard=none/\q.2.1∈x.1/\∀(V:Nat->Value) (W:World),R W->(∀j∈x.1,tab t j (V j) W)->∃W',(execOp (aE x.2 u V) (aF o.op o.type)).run P W=.ok (.value (q.2.2 (V q.2.1))) W'
def Ry(j:List (Nat×Nat×(Value->Value)))(L:Nat->Bool)(V:Nat->Value):Prop:=∀q∈j,L q.1=true->L q.2.1=true/\V q.1=q.2.2 (V q.2.1)
theorem Ry.next{y L V k v}(h:Ry y L V)(hk:L k=false)(C:∀q∈y,q.1=k->L q.2.1=true/\v=q.2.2 (V q.2.1)):Ry y (upd L k) (ba V k v):=λq A B=>by
 have key:L q.2.1=true->upd L k q.2.1=true/\ba V k v q.2.1=V q.2.1:=λj=>by
  have:q.2.1≠k:=λe=>by rw[e,hk]at j;cases j
  unfold upd ba;rw[if_neg this,if_neg this];exact⟨j,rfl⟩
 by_cases t:q.1=k
 ·obtain⟨j,u⟩:=C q A t;rw[(key j).2,t];exact⟨(key j).1,by unfold ba;rw[if_pos rfl];exact u⟩
 ·obtain⟨j,u⟩:=h q A ((xS B).resolve_left t);rw[(key j).2];exact⟨(key j).1,by unfold ba;rw[if_neg t];exact u⟩
theorem Tt{id:Nat}{ops:Array Oper}{u:Act}{w:World}(m:Nat)(A:List Nat)(R:World->Prop)(S:World->World->Prop)(D:Nat->List Value->World->Prop)(E:List (List Nat×List (Nat×Nat)))(n:Nat)(ds:List Nat)(fs:List (Nat×Nat×(Value->Value)))
 (hR:∀W W',R W->Below W.heap.size W W'->R W') (hS:∀W W',Below W.heap.size W W'->S W W') (hD:∀k vs W W',D k vs W->Below W.heap.size W W'->D k vs W') (r0:R w) (d0:∀vs,D 0 vs w)
 (h:au P u R S A (λr xs t=>IQ P u ops E R S A D t 0 A/\ajb P u ops E R t ds/\azs P u ops E R t fs/\∀(V:Nat->Value) (W:World),R W->D A.length (A.map V) W->Xy ds (λ_=>true) V->(∀q∈fs,V q.1=q.2.2 (V q.2.1))->cz V W 0 t->aH P u (λV W=>Q .normal (fX V ops.toList 0 u) W) m r xs V W) m ops.toList E [])
 (hn:u.tmps.size=n:=by rfl) (hm:P.follows .mixedOrders=true:=by kernel_rfl) (hok:sC ops n=true:=by kernel_rfl) (hpl:uI ops E=true:=by kernel_rfl) (gV:Lk E m ops.size=true:=by kernel_rfl) (Gj:DN E A m=true:=by kernel_rfl) (Cb:A.Nodup:=by decide) (tU:m<=ops.size:=by decide) (hsz:∀i∈ds,∀W W',S W W'->W.heap.size<=W'.heap.size:=by simp) (Cc:ds.all (λk=>decide (k<m)&&!A.contains k)=true:=by decide) (Mq:(fs.map (·.1)).all (λk=>decide (k<m)&&!A.contains k)=true:=by decide) :
 (Code.region id ops true).wp P Q u w:=by
 have Cc:=λk hk=>by simpa using List.all_eq_true.1 Cc k hk
 have Mq:∀q∈fs,q.1<m/\q.1∉A:=λq hq=>by simpa using List.all_eq_true.1 Mq _ (List.mem_map_of_mem hq)
 have YU:QK [] E m ops.size=true:=by
  simp only[QK,List.all_nil,Bool.true_and];refine List.all_eq_true.2 λk hk=>?_
  have h1:=List.all_eq_true.1 gV k hk;simp only[Bool.or_eq_true,decide_eq_true_eq]at h1⊢;refine h1.imp (λh=>h) λB=>List.all_eq_true.2 λj hj=>?_
  have C:=List.all_eq_true.1 B j hj;simp only[List.contains_nil,Bool.false_or];exact C
 have htm:=λi F=>by simp only[DN,dE]at Gj;simpa using List.all_eq_true.1 Gj.1 i F
 have LH:∀(i:Nat) (o:Oper),ops[i]?=some o->∃x:List Nat×List (Nat×Nat),E[i]?=some x/\∀j∈x.1,j∈ahead o:=by
  intro i o G
  have C:=List.all_eq_true.1 hpl (o,i) (List.mem_zipIdx_iff_getElem?.2 (by rw[Array.getElem?_toList];exact G))
  cases M:E[i]? with
  | none=>simp only[M]at C;cases C
  | some x => simp only[M,dE]at C;exact⟨x,rfl,λj hj=>by simpa using List.all_eq_true.1 C.1.1 j hj⟩
 obtain⟨s,⟨Mr,hFr,hFu,hF⟩,hs,hst,hq⟩:=asT (ops:=ops) m ops.toList E [] h (by simpa using tU)
  (λi o x h1 B C j hj=>by
   simp only[List.length_nil,mi]at h1⊢;obtain⟨y,hy,hyj⟩:=LH i o h1;rw[hy]at C;injection C with C;subst C;have:=hyj j hj;have Z:=List.all_eq_true.1 hok (o,i) (List.mem_zipIdx_iff_getElem?.2 (by rw[Array.getElem?_toList];exact h1));simp only[dE]at Z;have h6:=List.all_eq_true.1 Z.1.1.1.1 j this;simpa using h6)
  (λi o h1=>by
   simp only[List.length_nil,mi];rw[<- Array.getElem?_toList];exact h1)
  aj
 simp only[aO,List.length_nil,mi]at hF hst hq Mr hFr hFu
 have iz:=hs
 let T:Nat->(Nat->Value)->World->Prop:=λi V W=>aH P u (λV W=>Q .normal (fX V ops.toList 0 u) W) i (ops.toList.drop i) (E.drop i) V W
 have hT:∀i o x,ops[i]?=some o->E[i]?=some x->∀V W,T i V W=(if bP V o.guard=true then jM P (λv w'=>T (i+1) (ba V i v) w') ((execOp (aE x.2 u V) (aF o.op o.type)).run P W)else T (i+1) (ba V i undef) W):=by
  intro i o x G M V W;have hlt:i<ops.toList.length:=by simpa using (Array.getElem?_eq_some_iff.1 G).1
  have hlx:=(List.getElem?_eq_some_iff.1 M).1;have e1:ops.toList.drop i=o :: ops.toList.drop (i+1):=by
   rw[<- List.getElem_cons_drop hlt];congr 1;have:ops.toList[i]?=some o:=by rw[Array.getElem?_toList];exact G
   exact (List.getElem?_eq_some_iff.1 this).2
  have e2:E.drop i=x :: E.drop (i+1):=by rw[<- List.getElem_cons_drop hlx];congr 1;exact (List.getElem?_eq_some_iff.1 M).2
  show aH P u _ i _ _ V W=_;rw[e1,e2];rfl
 let I:(Nat->Bool)->(Nat->Value)->World->Prop:=λL V W =>
  ((∀i,m<=i->i<ops.size->L i=false)->R W/\(∀j,L j=true->tab s j (V j) W)/\D (A.filter L).length (A.map V) W/\QC ds L V W/\Ry fs L V) /\
  (∀k,m<k->k<=ops.size->(∀j,j<k->L j=true)->(∀j,k<=j->j<ops.size->L j=false)->T k V W)
 have RA:Below w.heap.size w w.drew:=Below.drew (cM _ _)
 refine Tz I n hn hm hok ⟨λ_=>⟨hR _ _ r0 RA,(λ_ hj=>PC),by rw[List.filter_eq_nil_iff.2 (by simp)];exact hD _ _ _ _ (d0 _) RA,⟨λ_ _ h=>wR,λ_ _ _ _ _ h=>wR⟩,λ_ _ h=>wR⟩,λk hk _ hL _=>by have:=hL 0 (by omega);cases this⟩ ?_ ?_
 ·intro k o G L V W p8 hcl hal hI;have hlt:=(Array.getElem?_eq_some_iff.1 G).1;obtain⟨x,M,Gk⟩:=LH k o G;have hex:execOp (yF ops u V o) o=execOp (aE x.2 u V) (aF o.op o.type):=by
   have h1:=List.all_eq_true.1 hpl (o,k) (List.mem_zipIdx_iff_getElem?.2 (by rw[Array.getElem?_toList];exact G));simp only[M,dE]at h1;rw[<- TP];refine execOp_congr o (λcs b e=>by rw[e]at h1;exact absurd h1.1.2 (by simp)) λy hy=>?_
   exact afz
  have hwg:wants V o=bP V o.guard:=by
   unfold wants bP
   cases hg:o.guard with
   | none=>rfl
   | some y=>rfl
  rw[hwg,hex];have noL:∀i,k<m->m<=i->i<ops.size->L i=false:=by
   intro i RB h1 B
   cases Cd:L i with
   | false=>rfl
   | true =>
    have Ms:ops[i]?=some ops[i]:=by simp[B]
    have:=TQ hpl YU hcl h1 Ms (λj hj=>hcl.1 i _ Ms Cd j hj) k af aj;rw[p8]at this;cases this
  by_cases RB:k<m
  ·obtain⟨hk,hp,O,hap,heq⟩:=hI.1 λi h1 B=>noL i RB h1 B
   have later:∀v w',(∀i,m<i->i<=ops.size->(∀j,j<i->upd L k j=true)->(∀j,i<=j->j<ops.size->upd L k j=false)->T i (ba V k v) w'):=by intro v w' i h1 B C _;have h4:=C m h1;unfold upd at h4;rw[if_neg af,noL m RB (aC _) af]at h4;cases h4
   by_cases sV:k∈A
   ·obtain⟨q,nG,xi⟩:=List.mem_iff_getElem.1 sV;have YV:=List.getElem?_eq_some_iff.2 ⟨nG,xi⟩;obtain⟨o',x',H,J,hg,hrun⟩:=Mr.at A 0 q k YV;rw[G]at H;injection H with H;subst H;rw[M]at J;injection J with J;subst J;obtain⟨c1,c2⟩:=auU hpl Gj Cb hcl YV G p8 hal;simp only[mi]at hrun;rw[c1]at O;have hr:=hrun V W hk O (λj hj=>hp j (hal j (Gk j hj)));rw[hg,if_pos (show bP V none=true from rfl)];have next:∀v w',R w'/\S W w'/\D (q+1) ((A.map V).set q v) w'/\tab s k v w'->I (upd L k) (ba V k v) w':=by
     rintro v w'⟨g1,g2,g3,g4⟩;refine⟨λ_=>⟨g1,λj hj=>?_,by rw[c2,auW Cb YV];exact g3,hap.next (λi F=>hsz i F _ _ g2) λh=>absurd sV (Cc k h).2,heq.next p8 λq hq e=>absurd (e▸sV) (Mq q hq).2⟩,later v w'⟩;by_cases hjk:j=k
     ·subst hjk;simpa [ba]using g4
     ·unfold ba;rw[if_neg hjk];exact TY hst _ _ _ _ (hp j ((xS hj).resolve_left hjk)) g2
    generalize (execOp (aE x.2 u V) (aF o.op o.type)).run P W=q at *;cases q with
    | ok nx w' =>
     cases nx <;> simp only[jM]at hr⊢
     case value v=>exact next _ _ hr
     case skip=>exact next _ _ hr
     case enter f args => apply lQ hr;intro v w'' X;exact⟨v,rfl,next _ _ X⟩
    | halt x w'=>simp only[jM]at hr
   ·have N:=hq k o x RB (by rw[Array.getElem?_toList];exact G) M (by simpa using sV) V W hk (λj hj=>hp j (hal j (Gk j hj)));have cL:A.filter (upd L k)=A.filter L:=List.filter_congr λj hj=>by unfold upd;rw[if_neg (by rintro rfl;exact sV hj)]
    have next:∀v w',tab s k v w'->Below W.heap.size W w'->(k∈ds->∀b,Az v=some b->W.heap.size<=b/\b<w'.heap.size)->(∀q∈fs,q.1=k->L q.2.1=true/\v=q.2.2 (V q.2.1))->I (upd L k) (ba V k v) w':=by
     intro v w' X hb hf hg;refine⟨λ_=>⟨hR _ _ hk hb,λj hj=>?_,by rw[cL,auV sV];exact hD _ _ _ _ O hb,hap.next (λ_ _=>hb.size) hf,heq.next p8 hg⟩,later v w'⟩;unfold ba;by_cases hjk:j=k
     ·subst hjk;simpa using X
     ·rw[if_neg hjk];exact TY hst _ _ _ _ (hp j ((xS hj).resolve_left hjk)) (hS _ _ hb)
    have jb:k∈ds->bP V o.guard=true/\∃v W',(execOp (aE x.2 u V) (aF o.op o.type)).run P W=.ok (.value v) W'/\∀b,Az v=some b->W.heap.size<=b/\b<W'.heap.size:=λp5=>by obtain⟨o',x',H,J,hg,h9⟩:=hFr k p5;rw[G]at H;injection H with H;subst H;rw[M]at J;injection J with J;subst J;exact⟨by rw[hg];rfl,h9 V W hk λj hj=>hp j (hal j (Gk j hj))⟩
    have Gl:∀q∈fs,q.1=k->bP V o.guard=true/\L q.2.1=true/\∃W',(execOp (aE x.2 u V) (aF o.op o.type)).run P W=.ok (.value (q.2.2 (V q.2.1))) W':=λq hq e=>by obtain⟨o',x',H,J,hg,hj,h9⟩:=hFu q hq;rw[e,G]at H;injection H with H;subst H;rw[e,M]at J;injection J with J;subst J;exact⟨by rw[hg];rfl,hal _ (Gk _ hj),h9 V W hk λj hj=>hp j (hal j (Gk j hj))⟩
    by_cases Y:bP V o.guard=true
    ·rw[if_pos Y]at N⊢;generalize (execOp (aE x.2 u V) (aF o.op o.type)).run P W=q at *;cases q with
     | ok nx w' =>
      cases nx <;> simp only[cN]at N <;> simp only[jM]
      case value v=>exact next _ _ N.1 N.2 (λp5=>by obtain⟨-,v2,W2,e,h9⟩:=jb p5;cases e;exact h9) λq hq e=>by obtain⟨-,h1,W2,e⟩:=Gl q hq e;cases e;exact⟨h1,rfl⟩
      case skip=>exact next _ _ N.1 N.2 (λp5=>afA) λq hq e=>afB
      case enter f args => apply lQ N;rintro v w''⟨X,hb⟩;exact⟨v,rfl,next _ _ X hb (λp5=>afA) λq hq e=>afB⟩
     | halt x w'=>simp only[cN]at N
    ·rw[if_neg Y]at N⊢;exact next _ _ N (cM _ _) (λp5=>absurd (jb p5).1 Y) λq hq e=>absurd (Gl q hq e).1 Y
  ·have hall:=TQ hpl YU hcl af G hal;have hno:∀i,k<=i->i<ops.size->L i=false:=by
    intro i h1 B;by_cases hik:i=k
    ·rw[hik];exact p8
    ·cases Cd:L i with
     | false=>rfl
     | true =>
      have Ms:ops[i]?=some ops[i]:=by simp[B]
      have:=TQ hpl YU hcl af Ms (λj hj=>hcl.1 i _ Ms Cd j hj) k af aj;rw[p8]at this;cases this
   have U:T k V W:=by
    by_cases azt:k=m
    ·subst azt;obtain⟨hk,hp,O,hap,heq⟩:=hI.1 hno;rw[List.filter_eq_self.2 λi F=>hall i (htm i F) aj]at O;refine hF V W hk O (λi F j hj hij _ _=>hap.2 i F j hj hij (hall i (Cc i F).1 aj) (hall j (Cc j hj).1 aj)) (λq hq=>(heq q hq (hall _ (Mq q hq).1 aj)).2) ?_;have:=afi (V:=V) (w:=W) s [] (λj _ B=>by
      simp at B;exact hp j (hall j af aj))
     simpa using this
    ·exact hI.2 k af af (λj hj=>hall j hj aj) hno
   rw[hT k o x G M]at U;have next:∀v w',T (k+1) (ba V k v) w'->I (upd L k) (ba V k v) w':=by
    intro v w' X;refine⟨λh1=>?_,λi h1 B C h4=>?_⟩
    ·have:=h1 k af hlt;unfold upd at this;rw[if_pos rfl]at this;cases this
    ·have F:i=k+1:=by
      rcases Nat.lt_trichotomy i (k+1)with Z|Z|Z
      ·have:=h4 k af hlt;unfold upd at this;rw[if_pos rfl]at this;cases this
      ·exact Z
      ·have:=C (k+1) Z;unfold upd at this;rw[if_neg af,hno (k+1) af af]at this;cases this
     rw[F];exact X
   by_cases Y:bP V o.guard=true
   ·rw[if_pos Y]at U⊢;generalize (execOp (aE x.2 u V) (aF o.op o.type)).run P W=q at *;cases q with
    | ok nx w' =>
     cases nx <;> simp only[jM]at U⊢
     case value v=>exact next _ _ U
     case skip=>exact next _ _ U
     case enter f args => apply lQ U;intro v w'' X;exact⟨v,rfl,next _ _ X⟩
    | halt x w'=>simp only[jM]at U
   ·rw[if_neg Y]at U⊢;exact next _ _ U
 ·intro V W hI;by_cases vT:m<ops.size
  ·have:=hI.2 ops.size vT (aC _) (λj hj=>Dm) (λj h1 B=>af);have e:T ops.size V W=Q .normal (fX V ops.toList 0 u) W:=by show aH P u _ _ _ _ _ W=_;rw[List.drop_eq_nil_of_le aj];rfl
   rw[e]at this;exact this
  ·have Cf:m=ops.size:=af;subst Cf;obtain⟨hk,hp,O,hap,heq⟩:=hI.1 (λi h1 B=>af);rw[List.filter_eq_self.2 λi F=>by simpa using htm i F]at O;have h9:=hF V W hk O (λi F j hj hij _ _=>hap.2 i F j hj hij (by simpa using (Cc i F).1) (by simpa using (Cc j hj).1)) (λq hq=>(heq q hq (by simpa using (Mq q hq).1)).2) (by
    have:=afi (V:=V) (w:=W) s [] (λj _ B=>by
     simp at B;exact hp j aY)
    simpa using this)
   rw[List.drop_eq_nil_of_le aj]at h9;exact h9
end
section
variable {P:Program} {Q:Exit->Act->World->Prop} {a0:Act} {R:World->Prop} {Z:World->World->Prop} {tl:List Nat} {Fin ajQ:List Oper->List (List Nat×List (Nat×Nat))->List (Value->World->Prop)->Prop} {E:(Nat->Value)->World->Prop} {n m:Nat} {o:Oper} {r:List Oper} {x:List Nat×List (Nat×Nat)} {xs:List (List Nat×List (Nat×Nat))} {t:List (Value->World->Prop)}
theorem au.imp(y:∀r xs t,Fin r xs t->ajQ r xs t):∀(m:Nat) (r:List Oper) (xs:List (List Nat×List (Nat×Nat))) (t:List (Value->World->Prop)),au P a0 R Z tl Fin m r xs t->au P a0 R Z tl ajQ m r xs t
 | 0,r,xs,t,h=>y r xs t h
 | m+1,[],_,_,h=>h.elim
 | m+1,_ :: _,[],_,h=>h.elim
 | m+1,o :: r,x :: xs,t,h=>by
  rcases h with ⟨j,ψ,u⟩|⟨j,φ,u,B,A⟩
  ·exact .inl ⟨j,ψ,au.imp y m r xs _ u⟩
  ·exact .inr ⟨j,φ,u,B,au.imp y m r xs _ A⟩
theorem Ol{id:Nat}{ops:Array Oper}{w:World}(m:Nat)(j:List Nat)(R:World->Prop)(S:World->World->Prop)(D:Nat->List Value->World->Prop)(u:List (List Nat×List (Nat×Nat)))(n:Nat)
 (A:∀W W',R W->Below W.heap.size W W'->R W') (C:∀W W',Below W.heap.size W W'->S W W') (N:∀k vs W W',D k vs W->Below W.heap.size W W'->D k vs W') (G:R w) (F:∀vs,D 0 vs w)
 (h:au P a0 R S j (λr xs t=>IQ P a0 ops u R S j D t 0 j/\∀(V:Nat->Value) (W:World),R W->D j.length (j.map V) W->cz V W 0 t->aH P a0 (λV W=>Q .normal (fX V ops.toList 0 a0) W) m r xs V W) m ops.toList u [])
 (hn:a0.tmps.size=n:=by rfl) (hm:P.follows .mixedOrders=true:=by kernel_rfl) (I:sC ops n=true:=by kernel_rfl) (L:uI ops u=true:=by kernel_rfl) (H:Lk u m ops.size=true:=by kernel_rfl) (E:DN u j m=true:=by kernel_rfl) (J:j.Nodup:=by decide) (M:m<=ops.size:=by decide) :
 (Code.region id ops true).wp P Q a0 w :=
 Tt m j R S D u n [] [] A C N G F (au.imp (λr xs t h=>⟨h.1,λ_ h=>wR,λ_ h=>wR,λV W y B _ _ O=>h.2 V W y B O⟩) _ _ _ _ h) hn hm I L H E J M aj rfl rfl
theorem dD{id:Nat}{ops:Array Oper}{w:World}(m:Nat)(j:List (List Nat×List (Nat×Nat)))(n:Nat)
 (h:au P a0 (K w) (λw w'=>Below w.heap.size w w') [] (λr xs t=>∀(V:Nat->Value) (W:World),K w W->cz V W 0 t->aH P a0 (λV W=>Q .normal (fX V ops.toList 0 a0) W) m r xs V W) m ops.toList j [])
 (hn:a0.tmps.size=n:=by rfl) (hm:P.follows .mixedOrders=true:=by kernel_rfl) (A:sC ops n=true:=by kernel_rfl) (B:uI ops j=true:=by kernel_rfl) (y:Lk j m ops.size=true:=by kernel_rfl) (C:m<=ops.size:=by decide) :
 (Code.region id ops true).wp P Q a0 w :=
 Ol m [] (K w) (λw w'=>Below w.heap.size w w') (λ_ _ _=>True) j n (λ_ _ h k=>h.tr k) (λ_ _ h=>h) (λ_ _ _ _ _ _=>trivial) (K.rf w) (λ_=>trivial)
  (au.imp (λr xs t h=>⟨trivial,λV W u _ D=>h V W u D⟩) _ _ _ _ h) hn hm A B y (by simp[DN]) aj C
theorem abc{id:Nat}{ops:Array Oper}{w:World}(m:Nat)(ds:List Nat)(j:List (List Nat×List (Nat×Nat)))(n:Nat)
 (h:au P a0 (K w) (λw w'=>Below w.heap.size w w') [] (λr xs t=>ajb P a0 ops j (K w) t ds/\∀(V:Nat->Value) (W:World),K w W->Xy ds (λ_=>true) V->cz V W 0 t->aH P a0 (λV W=>Q .normal (fX V ops.toList 0 a0) W) m r xs V W) m ops.toList j [])
 (hn:a0.tmps.size=n:=by rfl) (hm:P.follows .mixedOrders=true:=by kernel_rfl) (C:sC ops n=true:=by kernel_rfl) (D:uI ops j=true:=by kernel_rfl) (B:Lk j m ops.size=true:=by kernel_rfl) (E:m<=ops.size:=by decide) (A:ds.all (λk=>decide (k<m)&&!([]:List Nat).contains k)=true:=by decide) :
 (Code.region id ops true).wp P Q a0 w :=
 Tt m [] (K w) (λw w'=>Below w.heap.size w w') (λ_ _ _=>True) j n ds [] (λ_ _ h k=>h.tr k) (λ_ _ h=>h) (λ_ _ _ _ _ _=>trivial) (K.rf w) (λ_=>trivial)
  (au.imp (λr xs t h=>⟨trivial,h.1,λ_ h=>wR,λV W u _ y _ F=>h.2 V W u y F⟩) _ _ _ _ h) hn hm C D B (by simp[DN]) aj E (λ_ _ _ _ h=>h.size) A rfl
theorem au.op(φ:Value->World->Prop)(st:∀v w w',φ v w->Z w w'->φ v w')
 (h:∀(V:Nat->Value) (w:World),R w->(∀j∈x.1,tab t j (V j) w)->if bP V o.guard=true then cN P φ w ((execOp (aE x.2 a0 V) (aF o.op o.type)).run P w)else φ undef w)
 (k:au P a0 R Z tl Fin m r xs (t++[φ])) (e:tl.contains t.length=false:=by (simp only[cF,eQ,List.length_nil,List.contains_nil];try rfl)):au P a0 R Z tl Fin (m+1) (o :: r) (x :: xs) t:=.inr ⟨e,φ,st,h,k⟩
theorem au.s(k:au P a0 R Z tl Fin m r xs (t++[QS]))(e:tl.contains t.length=true:=by (simp only[cF,eQ,List.length_nil,List.contains_nil];try rfl)):au P a0 R Z tl Fin (m+1) (o :: r) (x :: xs) t:=.inl ⟨e,λ_=>True,k⟩
theorem au.kn(ψ:Value->Prop)(k:au P a0 R Z tl Fin m r xs (t++[λv _=>ψ v]))(e:tl.contains t.length=true:=by (simp only[cF,eQ,List.length_nil,List.contains_nil];try rfl)):au P a0 R Z tl Fin (m+1) (o :: r) (x :: xs) t:=.inl ⟨e,ψ,k⟩
theorem XI c:∀v w w',aJ c v w->Z w w'->aJ c v w':=λ_ _ _ h _=>h
theorem au.i{c:Value}(k:au P a0 R Z tl Fin m r xs (t++[aJ c]))
 (h:∀(V:Nat->Value) (w:World),R w->(∀j∈x.1,tab t j (V j) w)->if bP V o.guard=true then cN P (aJ c) w ((execOp (aE x.2 a0 V) (aF o.op o.type)).run P w)else aJ c undef w:=by
  intro V W kW hp;try simp only[cd,aO,aQ,bW,bY,aJ]at hp
  simp[bP,aE,List.lookup,hp,cN,execOp,aF,aJ,cM,kW,qs,go_sem];rfl) (e:tl.contains t.length=false:=by (simp only[cF,eQ,List.length_nil,List.contains_nil];try rfl)):au P a0 R Z tl Fin (m+1) (o :: r) (x :: xs) t:=.inr ⟨e,aJ c,XI c,h,k⟩
theorem au.is(c:Value)
 (h:∀(V:Nat->Value) (w:World),R w->(∀j∈x.1,tab t j (V j) w)->if bP V o.guard=true then cN P (aJ c) w ((execOp (aE x.2 a0 V) (aF o.op o.type)).run P w)else aJ c undef w)
 (k:au P a0 R Z tl Fin m r xs (t++[aJ c])) (e:tl.contains t.length=false:=by (simp only[cF,eQ,List.length_nil,List.contains_nil];try rfl)):au P a0 R Z tl Fin (m+1) (o :: r) (x :: xs) t:=.inr ⟨e,aJ c,XI c,h,k⟩
theorem au.d(φ:Value->World->Prop)(st:∀v w w',φ v w->Z w w'->φ v w'){f:FuncId}{args:(Nat->Value)->Array Value}
 (B:∀V W,R W->(∀j∈x.1,tab t j (V j) W)->Calls P f (args V) W λe w'=>∃v,e=.returned v/\φ v w'/\K W w') (k:au P a0 R Z tl Fin m r xs (t++[φ]))
 (h:∀(V:Nat->Value) (w:World),R w->(∀j∈x.1,tab t j (V j) w)->bP V o.guard=true/\(execOp (aE x.2 a0 V) (aF o.op o.type)).run P w=.ok (.enter f (args V)) w:=by
  intro V W kW hp;try simp only[cd,aO,aQ,bW,bY,aJ]at hp
  simp[bP,aE,List.lookup,hp,execOp,aF,qs,go_sem];try exact⟨rfl,rfl⟩
  all_goals fail) (e:tl.contains t.length=false:=by (simp only[cF,eQ,List.length_nil,List.contains_nil];try rfl)):au P a0 R Z tl Fin (m+1) (o :: r) (x :: xs) t :=
 .inr ⟨e,φ,st,λV W kW hp=>by rw[if_pos (h V W kW hp).1,(h V W kW hp).2];exact (B V W kW hp).mono λe w' ⟨v,A,u,y⟩=>⟨v,A,u,y⟩,k⟩
theorem au.c(φ:Value->World->Prop)(st:∀v w w',φ v w->Z w w'->φ v w'){f:FuncId}{args:Array Value}
 (u:∀W,R W->Calls P f args W λe w'=>∃v,e=.returned v/\φ v w'/\K W w') (k:au P a0 R Z tl Fin m r xs (t++[φ]))
 (h:∀(V:Nat->Value) (w:World),R w->(∀j∈x.1,tab t j (V j) w)->bP V o.guard=true/\(execOp (aE x.2 a0 V) (aF o.op o.type)).run P w=.ok (.enter f args) w:=by
  intro V W kW hp;try simp only[cd,aO,aQ,bW,bY,aJ]at hp
  simp[bP,aE,List.lookup,hp,execOp,aF,qs,go_sem];try exact⟨rfl,rfl⟩
  all_goals fail) (e:tl.contains t.length=false:=by (simp only[cF,eQ,List.length_nil,List.contains_nil];try rfl)):au P a0 R Z tl Fin (m+1) (o :: r) (x :: xs) t :=
 au.d (args:=λ_=>args) φ st (λ_ W k _=>u W k) k h e
theorem au.v{c:Value}{f:FuncId}{args:Array Value}(A:∀W,R W->Calls P f args W λe w'=>e=.returned c/\K W w')(k:au P a0 R Z tl Fin m r xs (t++[aJ c]))
 (h:∀(V:Nat->Value) (w:World),R w->(∀j∈x.1,tab t j (V j) w)->bP V o.guard=true/\(execOp (aE x.2 a0 V) (aF o.op o.type)).run P w=.ok (.enter f args) w:=by
  intro V W kW hp;try simp only[cd,aO,aQ,bW,bY,aJ]at hp
  simp[bP,aE,List.lookup,hp,execOp,aF,qs,go_sem];try exact⟨rfl,rfl⟩
  all_goals fail) (e:tl.contains t.length=false:=by (simp only[cF,eQ,List.length_nil,List.contains_nil];try rfl)):au P a0 R Z tl Fin (m+1) (o :: r) (x :: xs) t :=
 au.c (aJ c) (XI c) (λW k=>(A W k).mono λe w' ⟨y,u⟩=>⟨c,y,rfl,u⟩) k h e
theorem au.row{α:Type}{S:dW α}{e:TypeId}{N:Nat->Prop}(u:TypeId)(z:Value)(size bytes:Nat)(T:fK P u e z size bytes)(I:S.size=size)(C:size<=16777216)(A:Operand)(y:α)(E:o.op=.buildSlice u 1 #[(0,A)])(hg:o.guard=none)
 (h:∀(V:Nat->Value) (w:World),R w->(∀j∈x.1,tab t j (V j) w)->tT N S y (aE x.2 a0 V A) w)
 (k:au P a0 R Z tl Fin m r xs (t++[ew N 0 e S y])) (G:∀v w w',ew N 0 e S y v w->Z w w'->ew N 0 e S y v w':=by exact awm _ _ _ _ _) (D:tl.contains t.length=false:=by (simp only[cF,eQ,List.length_nil,List.contains_nil];try rfl)):au P a0 R Z tl Fin (m+1) (o :: r) (x :: xs) t:=by
 refine au.op (ew N 0 e S y) G (λV w F hp=>?_) k D
 obtain⟨H,B⟩:=h V w F hp
 rw[hg,if_pos (show bP V none=true from rfl),E,abQ (P:=P) (w:=w) u _ z size bytes T A rfl af C]
 exact⟨ew.new B 0 (eV _),(K.rf w).al _⟩
theorem aH.p{k:Nat}{V:Nat->Value}{w:World}{v:Value}(h:aH P a0 E (k+1) r xs (ba V k v) w)(j:(execOp (aE x.2 a0 V) (aF o.op o.type)).run P w=.ok (.value v) w:=by
 simp[aE,List.lookup,ba,hA,execOp,aF,qs,go_sem];try rfl) (hg:o.guard=none:=by rfl):aH P a0 E k (o :: r) (x :: xs) V w:=aH.pure v hg j h
theorem aH.s{k:Nat}{V:Nat->Value}{w w':World}(h:aH P a0 E (k+1) r xs (ba V k undef) w')(j:(execOp (aE x.2 a0 V) (aF o.op o.type)).run P w=.ok .skip w':=by
 simp[aE,List.lookup,ba,hA,execOp,aF,qs,go_sem];try rfl) (hg:o.guard=none:=by rfl):aH P a0 E k (o :: r) (x :: xs) V w:=aH.skip w' hg j h
theorem aH.e{k:Nat}{ops:List Oper}{a:Act}{V:Nat->Value}{w:World}(h:Q .normal a w)(e:fX V ops 0 a0=a:=by
 simp only[fX,Act.put,rJ,qM,qL,Nat.reduceAdd,ba];try rfl):aH P a0 (λV W=>Q .normal (fX V ops 0 a0) W) k [] xs V w:=aH.nil (e▸h)
theorem aH.h{k:Nat}{ops:List Oper}{a:Act}{V:Nat->Value}{w:World}(h:Q .normal a w)(e:fX V ops 0 a0=a:=by
 simp only[fX,Act.put,rJ,qM,qL,Nat.reduceAdd,ba,hA];try rfl):aH P a0 (λV W=>Q .normal (fX V ops 0 a0) W) k [] xs V w:=aH.nil (e▸h)
end
theorem uB{l v w}(n:Nat)(h:sl l v w)(hn:n<18446744073709551616)(t:l.length<=1000000000) :
 Calls prog 146 #[v,.int .u64 n] w λe w'=>∃v',e=.returned v'/\Own w' w.heap.size 5 v' (l++az n)/\K w w':=by
 obtain⟨A,c,rfl,j⟩:=h
 exact wJ A _ c l n hn w _ j (aC _) t
theorem O8{l b v u w}(h:sl l v w)(k:sl b u w)(y:l.length<=1000000000)(hb:b.length<=1000000000) :
 Calls prog 248 #[v,u] w λe w'=>∃v',e=.returned v'/\Own w' w.heap.size 5 v' (l++im b)/\K w w':=by
 obtain⟨A,c,rfl,j⟩:=h
 obtain⟨D,d,rfl,t⟩:=k
 refine (OA A D _ c _ d l b w _ j t (aC _) y hb).mono ?_
 rintro e w'⟨v',rfl,B,hk⟩
 exact⟨v',rfl,sB (aC _) B (by simp[im]),hk⟩
theorem Xz w:sl [] (.slice none 0 0) w:=⟨none,0,rfl,Reads.nil _ _ _ _⟩
def pF(x:aK):List UInt8:=if bK x then eN x else []
theorem ada x(h:cD x):(lh x).length<=54:=by obtain⟨_,_,_,j,t,u,_⟩:=h;have A:=cI (bf x.kind) (fW _);have E:=cI (bf x.br) (fW _);have D:=cI x.life j;have y:=cI x.bV t;have B:=cI (bf x.cl) (fW _);have C:=cI x.sub u;unfold lh;simp only[cF];omega
def zH(x:aK)(k:Nat):List UInt8:=lh x++az x.es.length++(x.es.take k).flatMap λe=>im (jw e)
theorem ark x k(h:k<x.es.length):zH x (k+1)=zH x k++im (jw x.es[k]):=by unfold zH;rw[gj h,List.flatMap_append,rI,List.flatMap_nil,List.append_nil];simp only[dY]
theorem asU x k(t:cD x)(h8:x.es.length<=8)(u:∀e∈x.es,fB e=true):(zH x k).length<=20000:=by
 have B:=ada x t;have y:=cI x.es.length af;have A:=acq (x.es.take k) λe j=>⟨u e (lM j),t.2.2.2.2.2.2.2 e (lM j)⟩
 have C:(x.es.take k).length<=8:=aY;unfold zH;simp only[cF];omega
theorem TA x v w(h:cV x v w)(hfit:cD x) :
 Calls prog 247 #[v] w λe w' =>
  ∃v',e=.returned (.tuple #[v',.int .i64 (qK x)])/\Own w' w.heap.size 5 v' (pF x)/\K w w':=by
 have N:=ae λW h=>J7 x v W h
 have h':=h
 obtain⟨vf,ve,rfl,hf,he⟩:=h
 have H:=ah.new w 126 (aD x vf ve)
 have y:=H.aS
 have O:=ae (axP h')
 have HF:=ae hfit
 have Mt:=ae (ada x hfit)
 obtain⟨hik,hib,hic,hil,Z,hiu,J,ajR⟩:=hfit
 clear h'
 cases hok:bK x
 ·have HE:=ae (Fc hok);have HR:Hid (pF x=[]):=ae (by simp[pF,hok]);have hne:(qK x != 0)=true:=gX;clear hok;go_enter func247,ntmps247;go_wp2_with fail
  generalize w.alloc _=w1 at *;refine (N.aa _ (O.aa _ y)).mono ?_;rintro e w2⟨rfl,t⟩;go_wp2;go_ret2;exact⟨_,rfl,Vq,y.tr t⟩
 have HE:=ae (Kj hok)
 have HR:Hid (pF x=eN x):=ae (by simp[pF,hok])
 have hne:(qK x != 0)=false:=gX
 obtain⟨-,-,hkk⟩:=Dc hok
 have HH:Hid (lh x=az (bf x.kind)++fy (x.br,x.life,x.bV)++az (bf x.cl)++az x.sub):=ae (by simp[lh,fy])
 have h8:x.kind=1->x.es.length<=8/\∀e∈x.es,fB e=true:=by
  intro hk;rcases hkk with h|h|h
  ·exact h.2.2.2
  ·omega
  ·omega
 have hf2:x.kind=2->okF x.f=true:=by
  intro hk;rcases hkk with h|h|h
  ·omega
  ·omega
  ·exact h.2.2
 have ja:x.kind=1∨x.kind=2∨x.kind=3:=af
 have H1:=ae λh=>Vh (x:=x) h
 have H2:=ae λh=>Vi (x:=x) h
 have H3:=ae λh1 h2=>ae6 (x:=x) h1 h2
 have HU:=ae (ark x)
 have HUL:=ae λk h=>asU x k HF.aa (h8 h).1 (h8 h).2
 have AA:Hid (zH x 0=lh x++az x.es.length):=ae (by simp[zH])
 have HUE:Hid (zH x x.es.length=lh x++az x.es.length++x.es.flatMap λe=>im (jw e)):=ae (by simp[zH])
 clear hok hkk HF
 obtain⟨k,b,l,s,cl,u,f,es⟩:=x
 simp only at H y hf he hik hib hic hil Z hiu J ajR h8 hf2 ja HH H1 H2 H3 HU HUL AA HUE hne HE HR N O Mt⊢
 generalize lh ⟨k,b,l,s,cl,u,f,es⟩=hd at *
 generalize zH ⟨k,b,l,s,cl,u,f,es⟩=up at *
 generalize pF ⟨k,b,l,s,cl,u,f,es⟩=R at *
 generalize eN ⟨k,b,l,s,cl,u,f,es⟩=E at *
 generalize qK ⟨k,b,l,s,cl,u,f,es⟩=C at *
 go_enter func247,ntmps247
 go_wp2_with fail
 generalize w.alloc _=w1 at *
 generalize w.heap.size=g at H⊢
 have qx:=H.cells
 have pZ:=eH _ _ _ _ hf y
 have YR:=bo he y
 refine (N.aa _ (O.aa _ y)).mono ?_
 rintro e w2⟨rfl,t⟩
 clear hf he N O
 go_upto_region 4 with (fail)
 have Mu:=λW (kW:K w2 W)=>qx W (t.tr kW)
 have p0:=cI (bf k) (fW k)
 have pi0:(fy (b,l,s)).length<=27:=by have g2:=cI (bf b) (fW b);have g3:=cI l hil;have g4:=cI s Z;simp only[fy,cF];omega
 have qs:=And.intro Mu (Dj k)
 refine dD 7 [([],[]),([0],[(17,0)]),([1],[(18,1)]),([2],[(19,2)]),([],[]),([4],[(21,4)]),([3,5],[(20,3),(22,5)]),([6],[(23,6)])] 75 ?_
 iterate 3 refine au.i ?_
 refine au.c (sl (az (bf k))) (nC _) (λW _=>(uB (bf k) (Xz W) (fW k) aj).mono λe w'' ⟨v',e1,ho,hb⟩=>⟨v',e1,eK (aO (az _)▸ho),hb⟩) ?_
 iterate 2 refine au.i ?_
 refine au.op (sl (az (bf k)++fy (b,l,s))) (nC _) (λV W kW hp=>?_) ?_
 ·simp only[cd,aO,aQ,bW,bY,aJ]at hp;simp[bP,aE,List.lookup,hp,cN,execOp,aF,go_sem];refine (abk _ _ (b,l,s) W hp.1 af ⟨hib,hil,Z⟩).mono ?_;rintro e w''⟨v',rfl,ho,hb⟩;exact⟨v',rfl,eK ho,hb⟩
 intro V w3 k3 hA
 simp only[aO,aQ,cz,aJ,Nat.reduceAdd]at hA
 refine aH.p (aH.h ?_)
 have h7:=hA.2.2.2.2.2.2.1
 clear hA qs
 generalize V 6=v3 at *
 replace t:=t.tr k3
 clear Mu k3
 have p6:(az (bf k)++fy (b,l,s)).length<=100:=aY
 generalize az (bf k)++fy (b,l,s)=b3 at *
 go_wp2_with fail
 rw[Dj cl]
 refine (uB (bf cl) h7 (fW cl) af).mono ?_
 rintro e w4⟨v4,rfl,dS,k4⟩
 have h4:=eK dS
 replace t:=t.tr k4
 have kP:(b3++az (bf cl)).length<=110:=by have:=cI (bf cl) (fW cl);simp;omega
 generalize b3++az (bf cl)=b4 at *
 clear dS k4 h7
 go_wp2_with fail
 refine (uB u h4 hiu af).mono ?_
 rintro e w5⟨v5,rfl,S,k5⟩
 rw[<- HH.aa]at S
 have G:=eK S
 have X:=sB (base:=w.heap.size) (bn y.size t.size) S rfl
 replace t:=t.tr k5
 have yN:=y.tr t
 clear k5 h4 kP p6 HH
 obtain rfl|rfl|rfl:=ja
 ·obtain⟨h8,hall⟩:=h8 rfl;obtain⟨D,d,rfl,hes,hd⟩:=YR;have Ci:=Mt.aa;go_wp2_with fail
  refine (uB es.length G af af).mono ?_;rintro e w6⟨v6,rfl,B,F⟩;rw[<- AA.aa]at B;have QJ:=sB (base:=w.heap.size) (bn y.size t.size) B rfl;replace t:=t.tr F;clear G X B F yN;go_wp2_with fail
  go_loopw [5,7,8,9,46] (fun o _ _ _ i wr=>∃j:Nat,j<=es.length/\i=.int .i64 j/\Own wr w.heap.size 5 o (up j)/\K w1 wr) (fun _ _ _ _ i _=>es.length-(intOf i).toNat)
  case atStart=>exact⟨0,af,rfl,QJ,t⟩
  case round =>
   obtain⟨j,hj,rfl,M,kr⟩:=hrel;by_cases L:j<es.length
   ·have aP:(j:Int)<es.length:=af;obtain⟨b1,off,cs,rfl,aN,hcl,⟨ve,rfl,iy⟩,hcell⟩:=Iy hes j L ay;have d0:wr.cell? ⟨b1,off+j,none⟩=some ve:=Pz;have DY:=pE _ _ _ _ iy kr;have hs:=HU.aa j L;have XV:=hall _ (bS L);have oB:=ajR _ (bS L);have hl9:=HUL.aa j KL;have hle:=UC XV oB;generalize es[j]=Y at *;have hc1:jY Y=0:=by simp[jY,XV]
    have gS:BR Y=jw Y:=by simp[BR,XV]
    have HS:=ae hs;clear hs hcell;go_wp2_with fail
    refine (ari DY oB).mono ?_;rintro e w7⟨v7,rfl,A,I⟩;rw[gS]at A;have h7:=eK A;have h57:=nC _ _ _ _ (eK M) I;have Q:=kr.tr I;clear A M DY iy;go_wp2_with fail
    refine (O8 h57 h7 af af).mono ?_;rintro e w8⟨v8,rfl,Rx,k8⟩;rw[<- HS.aa]at Rx;have ayC:=sB (base:=w.heap.size) (bn y.size Q.size) Rx rfl;replace Q:=Q.tr k8;clear h57 h7 Rx;go_wp2;go_roundw
    case rel=>exact⟨j+1,af,bJ,ayC,Q⟩
    case measure=>simp[intOf];omega
   ·have aP:¬(j:Int)<es.length:=af;obtain rfl:j=es.length:=af;have T:Own wr w.heap.size 5 u5 R:=by rw[HR.aa,H1.aa KL,<- dY,<- HUE.aa];exact M
    clear M;go_wp2;go_ret2;exact⟨_,gX,T,y.tr kr⟩
 ·have U:=hf2 rfl;have Ci:=Mt.aa;have hc1:mW f=0:=by simp[mW,U]
  have gS:BM f=ji f:=by simp[BM,U]
  have hlf:=ac4 U J;have HIF:=ae J;clear J;go_wp2_with fail
  refine (ap0 (eH _ _ _ _ pZ t) HIF.aa).mono ?_;rintro e w6⟨v6,rfl,B,F⟩;rw[gS]at B;have h6:=eK B;have h56:=nC _ _ _ _ G F;replace t:=t.tr F;clear B G;go_wp2_with fail
  refine (O8 h56 h6 af af).mono ?_;rintro e w7⟨v7,rfl,A,I⟩;rw[<- H2.aa KL]at A;rw[<- HR.aa]at A;have ayD:=sB (base:=w.heap.size) (bn y.size t.size) A rfl;replace t:=t.tr I;clear h56 h6 A;go_wp2;go_ret2;exact⟨_,gX,ayD,y.tr t⟩
 ·have T:Own w5 w.heap.size 5 v5 R:=by rw[HR.aa,H3.aa ay ay];exact X
  clear X G;go_wp2;go_ret2;exact⟨_,gX,T,yN⟩
theorem apf A n c b w B(hR:Reads w B 1 A n (dP b))(hB:B<=w.heap.size)(hn:n<=1000000000) :
 Calls prog 273 #[.slice A n c] w λe w' =>
  ∃v',e=.returned (.tuple #[v',.int .i64 (yp b)])/\pP w' w.heap.size v' (yo b)/\Below w.heap.size w w':=by
 have bR:b.length=n:=Fm
 have hle:b.length<=1000000000:=af
 clear bR
 go_enter func273,ntmps273
 go_wp2_with fail
 refine (Kr A n c b w B hR hB hn).mono ?_
 rintro e C⟨g,rfl,hg,R,T⟩
 go_wp2_with fail
 refine (sA g b false C R).mono ?_
 rintro e w2⟨rfl,aW,dH⟩
 have G:=R.lt
 have hz2:=dH.size
 have dQ:=T.trans (ky dH hg T.size)
 have U:=nz b false
 have XQ:=nv b false
 have E:Hid (sJ b=if decide ((ax b false).1<=16)&&!(fQ (ax b false).1 (ax b false).2.1 (ax b false).2.2).2.2&&(fQ (ax b false).1 (ax b false).2.1 (ax b false).2.2).2.1.isEmpty&&fB (fQ (ax b false).1 (ax b false).2.1 (ax b false).2.2).1 then some (fQ (ax b false).1 (ax b false).2.1 (ax b false).2.2).1 else none):=ae rfl
 generalize ax b false=a at *
 obtain⟨m,l,bad⟩:=a
 simp only at aW U XQ E⊢
 clear R T hR
 by_cases X:m<=16
 rotate_left
 ·have ym:(16:Int)<(m:Int):=af;have HE:Hid (yp b=40):=ae (by have:=E.aa;simp[X]at this;simp[yp,this]);have HL:Hid (yo b=[]):=ae (by have:=E.aa;simp[X]at this;simp[yo,this]);exact aeX
 have ym:¬(16:Int)<(m:Int):=af
 go_wp2_with fail
 go_loopw [6,7,15] (fun v _ i j=>∃k:Nat,k<=m/\i=.int .u64 k/\pP j C.heap.size v (fQ k l bad).1/\Rd j g (fQ k l bad).2.1 (fQ k l bad).2.2/\Below w.heap.size w j/\C.heap.size<=j.heap.size) (fun _ _ i _=>m-(intOf i).toNat)
 case atStart=>exact⟨0,af,rfl,jV _ _ _ _,aW,dQ,hz2⟩
 case round =>
  obtain⟨k,hk,rfl,y,D,hb,hz⟩:=hrel;by_cases U:k<m
  ·have fA:(k:Int)<m:=af;have F:=UB k l bad;have hfit:∀s,fQ k l bad=s->fQ (k+1) l bad=(s.1++[(sO s.2.1 s.2.2).1],(sO s.2.1 s.2.2).2):=λs e=>by subst e;rfl
   generalize hs:fQ k l bad=s at *;have hfit:=hfit s rfl;obtain⟨u,t,j⟩:=s;simp only at y D F;obtain⟨azh,XR⟩:=F;have azi:u.length<=16:=af;clear XR;have O:=ae (Oq g t j 16 wr D af af af);have kO:=Dl 16 t j;have I:Hid (fQ (k+1) l bad=(u++[((⟨(aL 16 t j).1.toArray⟩,(fq (aL 16 t j).2.1 (aL 16 t j).2.2).1.1,(fq (aL 16 t j).2.1 (aL 16 t j).2.2).1.2.1,⟨(fq (aL 16 t j).2.1 (aL 16 t j).2.2).1.2.2.toArray⟩):cT)],(fq (aL 16 t j).2.1 (aL 16 t j).2.2).2)):=ae hfit;clear hfit hs;have eE:=Pr (aL 16 t j).2.1 (aL 16 t j).2.2;have H:Hid (∀W,Rd W g (aL 16 t j).2.1 (aL 16 t j).2.2->Calls prog 308 #[.pointer (some ⟨g,0,none⟩)] W λe w'=>e=.returned (vd (fq (aL 16 t j).2.1 (aL 16 t j).2.2).1)/\nD g (fq (aL 16 t j).2.1 (aL 16 t j).2.2).2.1 (fq (aL 16 t j).2.1 (aL 16 t j).2.2).2.2 W w'):=ae λW hW=>abA g _ _ W hW af
   generalize aL 16 t j=sb at *;obtain⟨nm,lb,wb⟩:=sb;simp only at O H I kO eE;generalize fq lb wb=sv at *;obtain⟨⟨vk,vn,vt⟩,lv,wv⟩:=sv;simp only[vd]at H I eE;go_wp2_with fail
   refine O.aa.mono ?_;rintro e w3⟨v3,rfl,eD,dI,M⟩;have hst:=str (eK eD);have jl:=M.size;have BJ:=KP y M G;have S:=hb.trans (ky M hg hb.size);clear y D M hb O;go_wp2_with fail
   refine (H.aa _ dI).mono ?_;rintro e w4⟨rfl,ey,J⟩;have ir:=J.size;have V:=KP BJ J G;have Q:=S.trans (ky J hg S.size);clear BJ dI J S H hst eD;go_wp2_with (at_builtin;refine iF rfl _ _ 51 rfl C.heap.size 76 _ 4 48 TE _ _ _ rfl (pH V _) (w4.heap.size+1) _ 1 1 (mV (⟨nm.toArray⟩,vk,vn,⟨vt.toArray⟩)) rfl ?c1 ?c2 ?c3 ?c5 ?_)
   case c1=>exact Reads.new w4 (mV (⟨nm.toArray⟩,vk,vn,⟨vt.toArray⟩)) 76 4 1 rfl
   case c2=>exact adQ _
   case c3=>omega
   case c5=>simp;omega
   intro v5 N IG oz XY L;have QI:pP N C.heap.size v5 (fQ (k+1) l bad).1:=by rw[I.aa];unfold pP;simpa [List.flatMap_append]using IG
   have ie:Rd N g (fQ (k+1) l bad).2.1 (fQ (k+1) l bad).2.2:=by rw[I.aa];exact (ey.av (Below.alloc (cM _ _) (aC _) _)).below L G
   have azu:=(Q.alloc Q.size _).trans (L.mono af);have p7:C.heap.size<=N.heap.size:=by have:=L.size;simp at this;omega
   clear IG oz XY L ey V Q;go_wp2;go_roundw
   case rel=>exact⟨k+1,af,bJ,QI,ie,azu,p7⟩
   case measure=>simp[intOf];omega
  ·have fA:¬(k:Int)<m:=af;obtain rfl:k=m:=af;clear U hk;have F:=(UB k l bad).2;generalize fQ k l bad=s at *;obtain⟨u,t,j⟩:=s;simp only at y D E F;clear F;have Lw:∀x:Bool,x=(!j&&t.isEmpty&&fB u)->Hid (yp b=(if x then 0 else 40))/\Hid (yo b=if x then u else []):=by
    intro x Y
    have h:=E.aa
    rw[show (decide (k<=16))=true by simp;omega]at h
    cases x with
    | true=>rw[Bool.true_and,<- Y]at h;exact⟨ae (by simp[yp,h]),ae (by simp[yo,h])⟩
    | false=>rw[Bool.true_and,<- Y]at h;exact⟨ae (by simp[yp,h]),ae (by simp[yo,h])⟩
   have Rv:=ae Lw;clear Lw;go_wp2_with fail
   refine (Kg g _ _ wr D).mono ?_;rintro e w'⟨rfl,rfl⟩;cases hd:(!j&&t.isEmpty)
   ·exact ae1
   ·obtain⟨A',c',rfl,hR',_,_⟩:=y.slice;have hrow:=mg (bn hg (Nat.le_of_lt G)) y;go_wp2_with fail
    refine (TK A' c' u wr wr.heap.size hR' (aC _)).mono ?_;rintro e w6⟨rfl,Z⟩;have XT:=hb.trans (Z.mono hb.size);have QJ:=pA hrow Z;cases hok:fB u
    ·have hne:(jY u != 0)=true:=PB;exact ae2
    ·have hne:(jY u != 0)=false:=PB;exact ae3
section
variable {l la lb:List cT} {b:List UInt8} {v va vb:Value} {w:World}
theorem asV(h:sl b v w)(hn:b.length<=1000000000):Calls prog 273 #[v] w λe w' =>
 ∃v',e=.returned (.tuple #[v',.int .i64 (yp b)])/\pP w' w.heap.size v' (yo b)/\Below w.heap.size w w':=by
 obtain⟨A,c,rfl,j⟩:=h
 exact apf A _ c b w _ j (aC _) hn
end
