/-
  A region that draws its order: operations that only make memory, in any order; among them some that change memory, one behind the other; then operations that follow one another. Conditions: none.
-/
import Derived.Test.YtcjlnlcpodcldaaGreatMs00
import Derived.Test.YtcjlnlcpodcldaaGreatMsz
set_option maxRecDepth 100000
set_option maxHeartbeats 16000000
set_option linter.all false
namespace Go.Proofs.YtcjlnlcpodcldaaGreat
open Go Go.RowKit _root_.Go.Proofs.Tryz
open List renaming length→Q
open _root_.Array renaming size→Z
open Go.World renaming heap→D,alloc→aU,setCell→aV
open Go.Value renaming ownBlock→aW
open Go.Value renaming int→G,slice→F,pointer→aj,bool→ar,tuple→au,agg→av,string→aw
open Go.IntKind renaming i64→J,u64→E
open Option renaming none→U,some→I
open Go.Ending renaming returned→ak
open Go.Obj renaming cells→aq
open Go.World renaming setCell→ax,alloc→ay
open Bool renaming false→az,true→aA
open And renaming intro→aB
open List renaming lookup→aC,getElem?_eq_getElem→aE,getElem?_eq_some_iff→aF
open _root_.Array renaming getElem?_toList→aD,getElem?_eq_some_iff→aG
open Nat renaming le_succ→aH
open Or renaming inl→aI,inr→aJ
open Go renaming Calls→aK,execOp→aL,bodyPost_ret→aM,World→aP,Value→aQ
open Go.RowKit renaming Below→aN,intOf→aO
section
variable {P:Program} {aR:Exit->Act->aP->Prop}
def bA(P:Program)(A:Act)(R:aP->Prop)(S:aP->aP->Prop)(y:List Nat)(z:List Oper->List (List Nat×List (Nat×Nat))->List (aQ->aP->Prop)->Prop):Nat->List Oper->List (List Nat×List (Nat×Nat))->List (aQ->aP->Prop)->Prop
 | 0,r,xs,t=>z r xs t
 | _+1,[],_,_=>False
 | _+1,_ :: _,[],_=>False
 | m + 1,o :: r,x :: xs,t=>(y.contains (Q t)=aA/\∃ψ:aQ->Prop,bA P A R S y z m r xs (t++[λv _=>ψ v]))∨(y.contains (Q t)=az/\∃φ:aQ->aP->Prop,(∀v w w',φ v w->S w w'->φ v w') /\
  (∀(V:Nat->aQ) (w:aP),R w->(∀j∈x.1,tab t j (V j) w)->if dC V o.guard=aA then eH P φ w ((aL (bP x.2 A V) (bR o.op o.type)).run P w)else φ undef w) /\
  bA P A R S y z m r xs (t++[φ]))
def KT(P:Program)(A:Act)(ops:Array Oper)(B:List (List Nat×List (Nat×Nat)))(R:aP->Prop)(S:aP->aP->Prop)(z:List Nat)(y:Nat->List aQ->aP->Prop)(t:List (aQ->aP->Prop)):Nat->List Nat->Prop
 | _,[]=>True
 | k,i :: r=>(∃o x,ops[i]?=I o/\B[i]?=I x/\o.guard=U/\∀(V:Nat->aQ) (W:aP),R W->y k (z.map V) W->(∀j∈x.1,tab t j (V j) W) ->
  lO P (λv W'=>R W'/\S W W'/\y (k+1) ((z.map V).set k v) W'/\tab t i v W') ((aL (bP x.2 A V) (bR o.op o.type)).run P W))/\KT P A ops B R S z y t (k+1) r
theorem KT.at{A ops B R S z y t} :
 ∀(l:List Nat) (k:Nat),KT P A ops B R S z y t k l->∀(j i:Nat),l[j]?=I i->∃o x,ops[i]?=I o/\B[i]?=I x/\o.guard=U/\∀(V:Nat->aQ) (W:aP),R W->y (k+j) (z.map V) W->(∀j∈x.1,tab t j (V j) W) ->
  lO P (λv W'=>R W'/\S W W'/\y (k+j+1) ((z.map V).set (k+j) v) W'/\tab t i v W') ((aL (bP x.2 A V) (bR o.op o.type)).run P W)
 | [],_,_,j,i,h=>yY
 | _ :: r,k,h,0,i,e=>by simp at e;subst e;exact h.1
 | _ :: r,k,h,j+1,i,e=>by have:=KT.at r (k+1) h.2 j i Ny;rwa [show k+1+j=k+(j+1) by omega]at this
def Df(y:List (List Nat×List (Nat×Nat)))(t:List Nat)(m:Nat):Bool :=
 t.all (λi=>decide (i<m))&&(List.range (Q t)).all λk=>(List.range k).all λj=>sR y (t.getD j 0) (Q y) (t.getD k 0)
theorem aw0{ops:Array Oper}{B R S A L} :
 ∀(m:Nat) (l:List Oper) (y:List (List Nat×List (Nat×Nat))) (t:List (aQ->aP->Prop)),
  bA P B R S A L m l y t->(m<=Q l)->(∀i o x,ops[Q t+i]?=I o->l[i]?=I o->y[i]?=I x->∀j∈x.1,j<Q t+i)->(∀i o,l[i]?=I o->ops[Q t+i]?=I o) ->
  (∀φ∈t,∀v w w',φ v w->S w w'->φ v w') ->
  ∃s,L (l.drop m) (y.drop m) (t++s)/\Q s=m/\(∀φ∈t++s,∀v w w',φ v w->S w w'->φ v w')/\∀i o x,i<m->l[i]?=I o->y[i]?=I x->A.contains (Q t+i)=az->aaD P B R (tab (t++s)) (Q t+i) o.op o.type o.guard x.1 x.2:=by
 intro m
 induction m with
 | zero => intro l y t h _ _ _ H;exact⟨[],by grind [bA],rfl,by simpa using H,λi o x hi=>aZ⟩
 | succ m ih =>
  intro l y t h yq X T H
  cases l with
  | nil=>exact False.elim h
  | cons o r =>
  cases y with
  | nil=>exact False.elim h
  | cons x xs =>
   obtain⟨φ,st,hr,Gt⟩:∃φ:aQ->aP->Prop,(∀v w w',φ v w->S w w'->φ v w')/\bA P B R S A L m r xs (t++[φ]) /\
    (A.contains (Q t)=aA∨(A.contains (Q t)=az/\∀(V:Nat->aQ) (w:aP),R w->(∀j∈x.1,tab t j (V j) w)->if dC V o.guard=aA then eH P φ w ((aL (bP x.2 B V) (bR o.op o.type)).run P w)else φ undef w)):=by
    rcases h with ⟨h1,ψ,h2⟩|⟨h1,φ,h2,h3,h4⟩
    ·grind
    ·grind
   have e:Q (t++[φ])=Q t+1:=bq;obtain⟨s,W,hs,O,M⟩:=ih r xs (t++[φ]) hr (by simpa using yq)
    (λi o' C h1 h2 h3 j z=>by
     rw[e]at h1⊢;have:=X (i+1) o' C (by rwa [show Q t+(i+1)=Q t+1+i by omega]) AQ Nz j z;omega)
    (λi o' h1=>by
     rw[e,show Q t+1+i=Q t+(i+1) by omega];exact T (i+1) o' Cx)
    (fun ψ Y=>by
     rcases List.mem_append.1 Y with h1|h1
     ·exact H ψ h1
     ·simp at h1;subst h1;exact st)
   have aC6:tab (t++φ :: s) (Q t)=φ:=by unfold tab;funext v w;simp[List.getD_eq_getElem?_getD]
   have aDN:∀j,j<Q t->tab (t++φ :: s) j=tab t j:=by intro j z;unfold tab;funext v w;simp only[List.getD_eq_getElem?_getD];rw[List.getElem?_append_left z]
   have e1:t++[φ]++s=t++φ :: s:=bq;rw[e1]at W O M;refine⟨φ :: s,W,by simp[hs],O,?_⟩
   ·intro i o' C hi h1 h2 N;cases i with
    | zero =>
     simp at h1 h2;subst h1 h2;intro V w hk hp;rw[Nat.add_zero,aC6];rcases Gt with h|⟨_,ho⟩
     ·rw[Nat.add_zero,h]at N;cases N
     ·exact ho V w hk λj z=>by have hlt:=X 0 o x (T 0 o bq) bq bq j z;have:=hp j z;rwa [aDN j aZ]at this
    | succ i => have:=M i o' C aZ Cx AQ (by rwa [e,show Q t+1+i=Q t+(i+1) by omega]);rwa [e,show Q t+1+i=Q t+(i+1) by omega]at this
theorem azc{ops A t m}(hpl:tk ops A=aA)(O:Df A t m=aA)(BQ:t.Nodup){L}(C:Closed ops L){k i o}(R:t[k]?=I i)(ho:ops[i]?=I o)(N:L i=az)(hal:∀j∈ahead o,L j=aA) :
 (Q (t.filter L))=k/\Q (t.filter (upd L i))=k+1:=by
 have hk:=(aF.1 R).1
 have B:t[k]=i:=(aF.1 R).2
 simp only[Df,fB]at O
 have W:∀a b (y:a<b) (hb:b<Q t),sR A (t[a]'aZ) (Q A) t[b]=true:=λa b y hb=>by
  have h1:=List.all_eq_true.1 (List.all_eq_true.1 O.2 b (List.mem_range.2 hb)) a (List.mem_range.2 y)
  grind
 have aJo:Closed ops (upd L i):=by
  refine⟨λj o' Y z a y=>?_,λj z=>?_⟩
  ·unfold upd;split
   ·rfl
   ·rcases AK z with rfl|z
    ·grind
    ·exact C.1 j o' Y z a y
  ·rcases AK z with rfl|z
   ·grind
   ·exact C.2 j z
 have T:∀a (y:a<k),L (t[a]'aZ)=true:=λa y=>by
  grind [J5,upd,AK,List.getElem_inj]
 have V:∀a (y:a<Q t),k<a->L t[a]=false:=λa y X=>by
  cases h:L t[a]with
  | false=>rfl
  | true => have:=J5 hpl C _ _ (W k a X y) h;rw[B,N]at this;cases this
 have key:∀(M:Nat->Bool) (q:Nat),(∀a (y:a<Q t),M t[a]=decide (a<q))->q<=Q t->Q (t.filter M)=q:=by
  intro M q S hq;have e:t.filter M=t.take q:=by
   conv=>lhs;rw[<- List.take_append_drop q t]
   rw[List.filter_append,List.filter_eq_self.2 (λx H=>by
    obtain⟨a,y,e⟩:=List.mem_take_iff_getElem.1 H;rw[<- e,S a aZ];simp;omega),List.filter_eq_nil_iff.2 (λx H=>by
     obtain⟨a,y,e⟩:=List.mem_drop_iff_getElem.1 H;rw[<- e,S];simp),List.append_nil]
  rw[e,qN];omega
 refine⟨key L k (λa y=>?_) aZ,key (upd L i) (k+1) (λa y=>?_) aZ⟩
 ·rcases Nat.lt_trichotomy a k with h|h|h
  ·rw[T a h];simp[h]
  ·subst h;rw[B,N];simp
  ·rw[V a y h];simp;omega
 ·unfold upd;rcases Nat.lt_trichotomy a k with h|h|h
  ·rw[T a h];simp;omega
  ·subst h;rw[bT B];simp
  ·rw[bO (λe=>by rw[<- B]at e;have:=(List.getElem_inj BQ).1 e;omega),V a y h];simp;omega
theorem azd{V i v}{t:List Nat}(h:i∉t):t.map (cK V i v)=t.map V:=List.map_congr_left λj y=>by unfold cK;rw[bO (by rintro rfl;exact h y)]
theorem aze{V k i v}{j:List Nat}(B:j.Nodup)(t:j[k]?=I i):j.map (cK V i v)=(j.map V).set k v:=by
 obtain⟨hk,z⟩:=aF.1 t
 refine List.ext_getElem bq λa y A=>?_
 simp only[List.length_map]at y
 rw[List.getElem_map,List.getElem_set,List.getElem_map]
 unfold cK
 grind [List.getElem_inj]
def DF:aQ->Option Nat
 | .map m=>m
 | v=>aW v
def am7(P:Program)(y:Act)(ops:Array Oper)(z:List (List Nat×List (Nat×Nat)))(R:aP->Prop)(t:List (aQ->aP->Prop))(ds:List Nat):Prop :=
 ∀k∈ds,∃o x,ops[k]?=I o/\z[k]?=I x/\o.guard=U/\∀(V:Nat->aQ) (W:aP),R W->(∀j∈x.1,tab t j (V j) W)->∃v W',(aL (bP x.2 y V) (bR o.op o.type)).run P W=.ok (.value v) W'/\∀b,DF v=I b->Z (D W)<=b/\b<Z (D W')
def aat(ds:List Nat)(L:Nat->Bool)(V:Nat->aQ):Prop:=∀i∈ds,∀j∈ds,i≠j->L i=aA->L j=aA->∀b,DF (V i)=I b->DF (V j)≠I b
def Tq(ds:List Nat)(L:Nat->Bool)(V:Nat->aQ)(W:aP):Prop:=(∀i∈ds,L i=aA->∀b,DF (V i)=I b->b<Z (D W))/\aat ds L V
theorem Tq.next{ds L V W W' k v}(h:Tq ds L V W)(R:∀i∈ds,Z (D W)<=Z (D W'))(S:k∈ds->∀b,DF v=I b->Z (D W)<=b/\b<Z (D W')):Tq ds (upd L k) (cK V k v) W':=by
 have key:∀i∈ds,upd L k i=aA->∀b,DF (cK V k v i)=I b->b<Z (D W')/\(i=k->Z (D W)<=b)/\(i≠k->b<Z (D W)):=λi t y b hb=>by
  unfold cK at hb;by_cases z:i=k
  ·grind
  ·rw[bO z]at hb;have:=h.1 i t ((AK y).resolve_left z) b hb;grind
 refine⟨λi t y b hb=>(key i t y b hb).1,λi t j M N y H b B A=>?_⟩;have:=key i t y b B;have:=key j M H b A;by_cases z:i=k
 ·omega
 ·by_cases C:j=k
  ·omega
  ·unfold cK at B A;rw[bO z]at B;rw[bO C]at A;exact h.2 i t j M N ((AK y).resolve_left z) ((AK H).resolve_left C) b B A
def aDO(P:Program)(z:Act)(ops:Array Oper)(A:List (List Nat×List (Nat×Nat)))(R:aP->Prop)(t:List (aQ->aP->Prop))(y:List (Nat×Nat×(aQ->aQ))):Prop :=
 ∀q∈y,∃o x,ops[q.1]?=I o/\A[q.1]?=I x/\o.guard=U/\q.2.1∈x.1/\∀(V:Nat->aQ) (W:aP),R W->(∀j∈x.1,tab t j (V j) W)->∃W',(aL (bP x.2 z V) (bR o.op o.type)).run P W=.ok (.value (q.2.2 (V q.2.1))) W'
def Us(j:List (Nat×Nat×(aQ->aQ)))(L:Nat->Bool)(V:Nat->aQ):Prop:=∀q∈j,L q.1=aA->L q.2.1=aA/\V q.1=q.2.2 (V q.2.1)
theorem Us.next{y L V k v}(h:Us y L V)(hk:L k=az)(B:∀q∈y,q.1=k->L q.2.1=aA/\v=q.2.2 (V q.2.1)):Us y (upd L k) (cK V k v):=λq A C=>by
 have key:L q.2.1=aA->upd L k q.2.1=aA/\cK V k v q.2.1=V q.2.1:=λj=>by
  have:q.2.1≠k:=λe=>by rw[e,hk]at j;cases j
  unfold upd cK;rw[bO this,bO this];exact⟨j,rfl⟩
 by_cases t:q.1=k
 ·obtain⟨j,z⟩:=B q A t;rw[(key j).2,t];exact⟨(key j).1,by unfold cK;rw[bT rfl];exact z⟩
 ·obtain⟨j,z⟩:=h q A ((AK C).resolve_left t);rw[(key j).2];exact⟨(key j).1,by unfold cK;rw[bO t];exact z⟩
theorem QJ{id:Nat}{ops:Array Oper}{z:Act}{w:aP}(m:Nat)(A:List Nat)(R:aP->Prop)(S:aP->aP->Prop)(aT:Nat->List aQ->aP->Prop)(C:List (List Nat×List (Nat×Nat)))(n:Nat)(ds:List Nat)(fs:List (Nat×Nat×(aQ->aQ)))
 (hR:∀W W',R W->aN (Z (D W)) W W'->R W') (hS:∀W W',aN (Z (D W)) W W'->S W W') (hD:∀k vs W W',aT k vs W->aN (Z (D W)) W W'->aT k vs W') (r0:R w) (d0:∀vs,aT 0 vs w)
 (h:bA P z R S A (λr xs t=>KT P z ops C R S A aT t 0 A/\am7 P z ops C R t ds/\aDO P z ops C R t fs/\∀(V:Nat->aQ) (W:aP),R W->aT (Q A) (A.map V) W->aat ds (λ_=>aA) V->(∀q∈fs,V q.1=q.2.2 (V q.2.1))->dx V W 0 t->bJ P z (λV W=>aR .normal (iu V ops.toList 0 z) W) m r xs V W) m ops.toList C [])
 (hn:z.tmps.size=n:=by rfl) (hm:P.follows .mixedOrders=true:=by kernel_rfl) (hok:rL ops n=true:=by kernel_rfl) (hpl:tk ops C=true:=by kernel_rfl) (iO:FU C m ops.size=true:=by kernel_rfl) (BR:Df C A m=true:=by kernel_rfl) (BQ:A.Nodup:=by decide) (oh:m<=ops.size:=by decide) (hsz:∀i∈ds,∀W W',S W W'->Z (D W)<=Z (D W'):=by simp) (E4:ds.all (λk=>decide (k<m)&&!A.contains k)=true:=by decide) (O4:(fs.map (·.1)).all (λk=>decide (k<m)&&!A.contains k)=true:=by decide) :
 (Code.region id ops aA).wp P aR z w:=by
 have E4:=λk hk=>by simpa using List.all_eq_true.1 E4 k hk
 have O4:∀q∈fs,q.1<m/\q.1∉A:=λq hq=>by simpa using List.all_eq_true.1 O4 _ (List.mem_map_of_mem hq)
 have Ll:TH [] C m ops.size=true:=by
  simp only[TH,List.all_nil,Bool.true_and];refine List.all_eq_true.2 λk hk=>?_
  have h1:=List.all_eq_true.1 iO k hk;simp only[Bool.or_eq_true,decide_eq_true_eq]at h1⊢;refine h1.imp (λh=>h) λB=>List.all_eq_true.2 λj hj=>?_
  have M:=List.all_eq_true.1 B j hj;simp only[List.contains_nil,Bool.false_or];exact M
 have htm:=λi H=>by simp only[Df,fB]at BR;simpa using List.all_eq_true.1 BR.1 i H
 have Oq:∀(i:Nat) (o:Oper),ops[i]?=I o->∃x:List Nat×List (Nat×Nat),C[i]?=I x/\∀j∈x.1,j∈ahead o:=by
  intro i o N
  have M:=List.all_eq_true.1 hpl (o,i) (List.mem_zipIdx_iff_getElem?.2 (by rw[aD];exact N))
  cases Y:C[i]? with
  | none=>simp only[Y]at M;cases M
  | some x => simp only[Y,fB]at M;exact⟨x,rfl,λj hj=>by simpa using List.all_eq_true.1 M.1.1 j hj⟩
 obtain⟨s,⟨Uu,hFr,hFu,hF⟩,hs,hst,hq⟩:=aw0 (ops:=ops) m ops.toList C [] h (by simpa using oh)
  (λi o x h1 B M j hj=>by
   simp only[List.length_nil,ng]at h1⊢;obtain⟨y,hy,hyj⟩:=Oq i o h1;rw[hy]at M;injection M with M;subst M;have:=hyj j hj;have h5:=List.all_eq_true.1 hok (o,i) (List.mem_zipIdx_iff_getElem?.2 (by rw[aD];exact h1));simp only[fB]at h5;have h6:=List.all_eq_true.1 h5.1.1.1.1 j this;simpa using h6)
  (λi o h1=>by
   simp only[List.length_nil,ng];rw[<- aD];exact h1)
  bq
 simp only[bU,List.length_nil,ng]at hF hst hq Uu hFr hFu
 have gG:=hs
 let T:Nat->(Nat->aQ)->aP->Prop:=λi V W=>bJ P z (λV W=>aR .normal (iu V ops.toList 0 z) W) i (ops.toList.drop i) (C.drop i) V W
 have hT:∀i o x,ops[i]?=I o->C[i]?=I x->∀V W,T i V W=(if dC V o.guard=aA then lO P (λv w'=>T (i+1) (cK V i v) w') ((aL (bP x.2 z V) (bR o.op o.type)).run P W)else T (i+1) (cK V i undef) W):=by
  intro i o x N Y V W;have hlt:i<Q ops.toList:=by simpa using (aG.1 N).1
  have hlx:=(aF.1 Y).1;have e1:ops.toList.drop i=o :: ops.toList.drop (i+1):=by
   rw[<- List.getElem_cons_drop hlt];congr 1;have:ops.toList[i]?=I o:=by rw[aD];exact N
   exact (aF.1 this).2
  have e2:C.drop i=x :: C.drop (i+1):=by rw[<- List.getElem_cons_drop hlx];congr 1;exact (aF.1 Y).2
  show bJ P z _ i _ _ V W=_;rw[e1,e2];rfl
 let ah:(Nat->Bool)->(Nat->aQ)->aP->Prop:=λL V W =>
  ((∀i,m<=i->i<ops.size->L i=az)->R W/\(∀j,L j=aA->tab s j (V j) W)/\aT (Q (A.filter L)) (A.map V) W/\Tq ds L V W/\Us fs L V) /\
  (∀k,m<k->k<=ops.size->(∀j,j<k->L j=aA)->(∀j,k<=j->j<ops.size->L j=az)->T k V W)
 have Uv:aN (Z (D w)) w w.drew:=Below.drew (ed _ _)
 refine QM ah n hn hm hok ⟨λ_=>⟨hR _ _ r0 Uv,(λ_ hj=>Sd),by rw[List.filter_eq_nil_iff.2 (by simp)];exact hD _ _ _ _ (d0 _) Uv,⟨λ_ _ h=>sH,λ_ _ _ _ _ h=>sH⟩,λ_ _ h=>sH⟩,λk hk _ hL _=>by have:=hL 0 (by omega);cases this⟩ ?_ ?_
 ·intro k o N L V W s5 hcl hal hI;have hlt:=(aG.1 N).1;obtain⟨x,Y,I3⟩:=Oq k o N;have hex:aL (BJ ops z V o) o=aL (bP x.2 z V) (bR o.op o.type):=by
   have h1:=List.all_eq_true.1 hpl (o,k) (List.mem_zipIdx_iff_getElem?.2 (by rw[aD];exact N));simp only[Y,fB]at h1;rw[<- WK];refine execOp_congr o (λcs b e=>by rw[e]at h1;exact absurd h1.1.2 (by simp)) λy hy=>?_
   exact aiT
  have hwg:wants V o=dC V o.guard:=by
   unfold wants dC
   cases hg:o.guard with
   | none=>rfl
   | some y=>rfl
  rw[hwg,hex];have noL:∀i,k<m->m<=i->i<ops.size->L i=false:=by
   intro i Uw h1 B
   cases E5:L i with
   | false=>rfl
   | true =>
    have O5:ops[i]?=I ops[i]:=by simp[B]
    have:=WL hpl Ll hcl h1 O5 (λj hj=>hcl.1 i _ O5 E5 j hj) k aZ bq;rw[s5]at this;cases this
  by_cases Uw:k<m
  ·obtain⟨hk,hp,hd,hap,heq⟩:=hI.1 λi h1 B=>noL i Uw h1 B
   have later:∀v w',(∀i,m<i->i<=ops.size->(∀j,j<i->upd L k j=aA)->(∀j,i<=j->j<ops.size->upd L k j=az)->T i (cK V k v) w'):=by intro v w' i h1 B M _;have h4:=M m h1;unfold upd at h4;rw[bO aZ,noL m Uw (bL _) aZ]at h4;cases h4
   by_cases xv:k∈A
   ·obtain⟨q,gX,om⟩:=List.mem_iff_getElem.1 xv;have hqi:=aF.2 ⟨gX,om⟩;obtain⟨o',x',X,O,hg,hrun⟩:=Uu.at A 0 q k hqi;rw[N]at X;injection X with X;subst X;rw[Y]at O;injection O with O;subst O;obtain⟨c1,c2⟩:=azc hpl BR BQ hcl hqi N s5 hal;simp only[ng]at hrun;rw[c1]at hd;have hr:=hrun V W hk hd (λj hj=>hp j (hal j (I3 j hj)));rw[hg,bT (show dC V U=aA from rfl)];have next:∀v w',R w'/\S W w'/\aT (q+1) ((A.map V).set q v) w'/\tab s k v w'->ah (upd L k) (cK V k v) w':=by
     rintro v w'⟨g1,g2,g3,g4⟩;refine⟨λ_=>⟨g1,λj hj=>?_,by rw[c2,aze BQ hqi];exact g3,hap.next (λi H=>hsz i H _ _ g2) λh=>absurd xv (E4 k h).2,heq.next s5 λq hq e=>absurd (e▸xv) (O4 q hq).2⟩,later v w'⟩;by_cases hjk:j=k
     ·subst hjk;simpa [cK]using g4
     ·unfold cK;rw[bO hjk];exact WW hst _ _ _ _ (hp j ((AK hj).resolve_left hjk)) g2
    generalize (aL (bP x.2 z V) (bR o.op o.type)).run P W=q at *;cases q with
    | ok nx w' =>
     cases nx <;> simp only[lO]at hr⊢
     case value v=>exact next _ _ hr
     case skip=>exact next _ _ hr
     case enter f args => apply dD hr;intro v w'' hv;exact⟨v,rfl,next _ _ hv⟩
    | halt x w'=>simp only[lO]at hr
   ·have xZ:=hq k o x Uw (by rw[aD];exact N) Y (by simpa using xv) V W hk (λj hj=>hp j (hal j (I3 j hj)));have dM:A.filter (upd L k)=A.filter L:=List.filter_congr λj hj=>by unfold upd;rw[bO (by rintro rfl;exact xv hj)]
    have next:∀v w',tab s k v w'->aN (Z (D W)) W w'->(k∈ds->∀b,DF v=I b->Z (D W)<=b/\b<Z (D w'))->(∀q∈fs,q.1=k->L q.2.1=aA/\v=q.2.2 (V q.2.1))->ah (upd L k) (cK V k v) w':=by
     intro v w' hv hb hf hg;refine⟨λ_=>⟨hR _ _ hk hb,λj hj=>?_,by rw[dM,azd xv];exact hD _ _ _ _ hd hb,hap.next (λ_ _=>hb.size) hf,heq.next s5 hg⟩,later v w'⟩;unfold cK;by_cases hjk:j=k
     ·subst hjk;simpa using hv
     ·rw[bO hjk];exact WW hst _ _ _ _ (hp j ((AK hj).resolve_left hjk)) (hS _ _ hb)
    have oo:k∈ds->dC V o.guard=aA/\∃v W',(aL (bP x.2 z V) (bR o.op o.type)).run P W=.ok (.value v) W'/\∀b,DF v=I b->Z (D W)<=b/\b<Z (D W'):=λuC=>by obtain⟨o',x',X,O,hg,h9⟩:=hFr k uC;rw[N]at X;injection X with X;subst X;rw[Y]at O;injection O with O;subst O;exact⟨by rw[hg];rfl,h9 V W hk λj hj=>hp j (hal j (I3 j hj))⟩
    have Lm:∀q∈fs,q.1=k->dC V o.guard=aA/\L q.2.1=aA/\∃W',(aL (bP x.2 z V) (bR o.op o.type)).run P W=.ok (.value (q.2.2 (V q.2.1))) W':=λq hq e=>by obtain⟨o',x',X,O,hg,hj,h9⟩:=hFu q hq;rw[e,N]at X;injection X with X;subst X;rw[e,Y]at O;injection O with O;subst O;exact⟨by rw[hg];rfl,hal _ (I3 _ hj),h9 V W hk λj hj=>hp j (hal j (I3 j hj))⟩
    by_cases IG:dC V o.guard=aA
    ·rw[bT IG]at xZ⊢;generalize (aL (bP x.2 z V) (bR o.op o.type)).run P W=q at *;cases q with
     | ok nx w' =>
      cases nx <;> simp only[eH]at xZ <;> simp only[lO]
      case value v=>exact next _ _ xZ.1 xZ.2 (λuC=>by obtain⟨-,v2,W2,e,h9⟩:=oo uC;cases e;exact h9) λq hq e=>by obtain⟨-,h1,W2,e⟩:=Lm q hq e;cases e;exact⟨h1,rfl⟩
      case skip=>exact next _ _ xZ.1 xZ.2 (λuC=>aiU) λq hq e=>aiV
      case enter f args => apply dD xZ;rintro v w''⟨hv,hb⟩;exact⟨v,rfl,next _ _ hv hb (λuC=>aiU) λq hq e=>aiV⟩
     | halt x w'=>simp only[eH]at xZ
    ·rw[bO IG]at xZ⊢;exact next _ _ xZ (ed _ _) (λuC=>absurd (oo uC).1 IG) λq hq e=>absurd (Lm q hq e).1 IG
  ·have hall:=WL hpl Ll hcl aZ N hal;have hno:∀i,k<=i->i<ops.size->L i=false:=by
    intro i h1 B;by_cases hik:i=k
    ·rw[hik];exact s5
    ·cases E5:L i with
     | false=>rfl
     | true =>
      have O5:ops[i]?=I ops[i]:=by simp[B]
      have:=WL hpl Ll hcl aZ O5 (λj hj=>hcl.1 i _ O5 E5 j hj) k aZ bq;rw[s5]at this;cases this
   have E6:T k V W:=by
    by_cases aDP:k=m
    ·subst aDP;obtain⟨hk,hp,hd,hap,heq⟩:=hI.1 hno;rw[List.filter_eq_self.2 λi H=>hall i (htm i H) bq]at hd;refine hF V W hk hd (λi H j hj hij _ _=>hap.2 i H j hj hij (hall i (E4 i H).1 bq) (hall j (E4 j hj).1 bq)) (λq hq=>(heq q hq (hall _ (O4 q hq).1 bq)).2) ?_;have:=aiG (V:=V) (w:=W) s [] (λj _ B=>by
      simp at B;exact hp j (hall j aZ bq))
     simpa using this
    ·exact hI.2 k aZ aZ (λj hj=>hall j hj bq) hno
   rw[hT k o x N Y]at E6;have next:∀v w',T (k+1) (cK V k v) w'->ah (upd L k) (cK V k v) w':=by
    intro v w' hv;refine⟨λh1=>?_,λi h1 B M h4=>?_⟩
    ·have:=h1 k aZ hlt;unfold upd at this;rw[bT rfl]at this;cases this
    ·have H:i=k+1:=by
      rcases Nat.lt_trichotomy i (k+1)with h5|h5|h5
      ·have:=h4 k aZ hlt;unfold upd at this;rw[bT rfl]at this;cases this
      ·exact h5
      ·have:=M (k+1) h5;unfold upd at this;rw[bO aZ,hno (k+1) aZ aZ]at this;cases this
     rw[H];exact hv
   by_cases IG:dC V o.guard=aA
   ·rw[bT IG]at E6⊢;generalize (aL (bP x.2 z V) (bR o.op o.type)).run P W=q at *;cases q with
    | ok nx w' =>
     cases nx <;> simp only[lO]at E6⊢
     case value v=>exact next _ _ E6
     case skip=>exact next _ _ E6
     case enter f args => apply dD E6;intro v w'' hv;exact⟨v,rfl,next _ _ hv⟩
    | halt x w'=>simp only[lO]at E6
   ·rw[bO IG]at E6⊢;exact next _ _ E6
 ·intro V W hI;by_cases zx:m<ops.size
  ·have:=hI.2 ops.size zx (bL _) (λj hj=>Es) (λj h1 B=>aZ);have e:T ops.size V W=aR .normal (iu V ops.toList 0 z) W:=by show bJ P z _ _ _ _ _ W=_;rw[List.drop_eq_nil_of_le bq];rfl
   rw[e]at this;exact this
  ·have BS:m=ops.size:=aZ;subst BS;obtain⟨hk,hp,hd,hap,heq⟩:=hI.1 (λi h1 B=>aZ);rw[List.filter_eq_self.2 λi H=>by simpa using htm i H]at hd;have h9:=hF V W hk hd (λi H j hj hij _ _=>hap.2 i H j hj hij (by simpa using (E4 i H).1) (by simpa using (E4 j hj).1)) (λq hq=>(heq q hq (by simpa using (O4 q hq).1)).2) (by
    have:=aiG (V:=V) (w:=W) s [] (λj _ B=>by
     simp at B;exact hp j cG)
    simpa using this)
   rw[List.drop_eq_nil_of_le bq]at h9;exact h9
end
section
variable {P:Program} {aR:Exit->Act->aP->Prop} {a0:Act} {R:aP->Prop} {aS:aP->aP->Prop} {tl:List Nat} {Fin anP:List Oper->List (List Nat×List (Nat×Nat))->List (aQ->aP->Prop)->Prop} {ai:(Nat->aQ)->aP->Prop} {n m:Nat} {o:Oper} {r:List Oper} {x:List Nat×List (Nat×Nat)} {xs:List (List Nat×List (Nat×Nat))} {t:List (aQ->aP->Prop)}
theorem bA.imp(z:∀r xs t,Fin r xs t->anP r xs t):∀(m:Nat) (r:List Oper) (xs:List (List Nat×List (Nat×Nat))) (t:List (aQ->aP->Prop)),bA P a0 R aS tl Fin m r xs t->bA P a0 R aS tl anP m r xs t
 | 0,r,xs,t,h=>z r xs t h
 | m+1,[],_,_,h=>h.elim
 | m+1,_ :: _,[],_,h=>h.elim
 | m+1,o :: r,x :: xs,t,h=>by
  rcases h with ⟨y,ψ,j⟩|⟨y,φ,j,A,B⟩
  ·exact aI ⟨y,ψ,bA.imp z m r xs _ j⟩
  ·exact aJ ⟨y,φ,j,A,bA.imp z m r xs _ B⟩
theorem Mw{id:Nat}{ops:Array Oper}{w:aP}(m:Nat)(j:List Nat)(R:aP->Prop)(S:aP->aP->Prop)(y:Nat->List aQ->aP->Prop)(z:List (List Nat×List (Nat×Nat)))(n:Nat)
 (H:∀W W',R W->aN (Z (D W)) W W'->R W') (M:∀W W',aN (Z (D W)) W W'->S W W') (hD:∀k vs W W',y k vs W->aN (Z (D W)) W W'->y k vs W') (r0:R w) (O:∀vs,y 0 vs w)
 (h:bA P a0 R S j (λr xs t=>KT P a0 ops z R S j y t 0 j/\∀(V:Nat->aQ) (W:aP),R W->y (Q j) (j.map V) W->dx V W 0 t->bJ P a0 (λV W=>aR .normal (iu V ops.toList 0 a0) W) m r xs V W) m ops.toList z [])
 (hn:a0.tmps.size=n:=by rfl) (hm:P.follows .mixedOrders=true:=by kernel_rfl) (L:rL ops n=true:=by kernel_rfl) (C:tk ops z=true:=by kernel_rfl) (A:FU z m ops.size=true:=by kernel_rfl) (X:Df z j m=true:=by kernel_rfl) (BQ:j.Nodup:=by decide) (T:m<=ops.size:=by decide) :
 (Code.region id ops aA).wp P aR a0 w :=
 QJ m j R S y z n [] [] H M hD r0 O (bA.imp (λr xs t h=>⟨h.1,λ_ h=>sH,λ_ h=>sH,λV W N B _ _ Y=>h.2 V W N B Y⟩) _ _ _ _ h) hn hm L C A X BQ T bq rfl rfl
theorem QW{id:Nat}{ops:Array Oper}{w:aP}(m:Nat)(j:List (List Nat×List (Nat×Nat)))(n:Nat)
 (h:bA P a0 (K w) (λw w'=>aN (Z (D w)) w w') [] (λr xs t=>∀(V:Nat->aQ) (W:aP),K w W->dx V W 0 t->bJ P a0 (λV W=>aR .normal (iu V ops.toList 0 a0) W) m r xs V W) m ops.toList j [])
 (hn:a0.tmps.size=n:=by rfl) (hm:P.follows .mixedOrders=true:=by kernel_rfl) (A:rL ops n=true:=by kernel_rfl) (z:tk ops j=true:=by kernel_rfl) (y:FU j m ops.size=true:=by kernel_rfl) (H:m<=ops.size:=by decide) :
 (Code.region id ops aA).wp P aR a0 w :=
 Mw m [] (K w) (λw w'=>aN (Z (D w)) w w') (λ_ _ _=>True) j n (λ_ _ h k=>h.tr k) (λ_ _ h=>h) (λ_ _ _ _ _ _=>trivial) (K.rf w) (λ_=>trivial)
  (bA.imp (λr xs t h=>⟨trivial,λV W B _ C=>h V W B C⟩) _ _ _ _ h) hn hm A z y (by simp[Df]) bq H
def aaF(ops:Array Oper):List (List Nat×List (Nat×Nat)) :=
 ops.toList.map λo=>((List.range ops.size).filter (ahead o).contains,o.op.operands.toList.filterMap λy=>match y with
  | .tmp t=>((ahead o).find? λj=>rP ops j==I t).map λj=>(t,j)
  | _=>U)
theorem eQ{id ops w} m{j n}
 (h:bA P a0 (K w) (λw w'=>aN (Z (D w)) w w') [] (λr xs t=>∀(V:Nat->aQ) (W:aP),K w W->dx V W 0 t->bJ P a0 (λV W=>aR .normal (iu V ops.toList 0 a0) W) m r xs V W) m ops.toList j [])
 (C:aaF ops=j:=by conv=>lhs;cbv) (hn:a0.tmps.size=n:=by rfl) (hm:P.follows .mixedOrders=true:=by kernel_rfl) (A:rL ops n=true:=by kernel_rfl) (z:tk ops j=true:=by kernel_rfl) (y:FU j m ops.size=true:=by kernel_rfl) (B:m<=ops.size:=by decide) :
 (Code.region id ops aA).wp P aR a0 w:=QW m j n h hn hm A z y B
theorem aen{id:Nat}{ops:Array Oper}{w:aP}(m:Nat)(ds:List Nat)(j:List (List Nat×List (Nat×Nat)))(n:Nat)
 (h:bA P a0 (K w) (λw w'=>aN (Z (D w)) w w') [] (λr xs t=>am7 P a0 ops j (K w) t ds/\∀(V:Nat->aQ) (W:aP),K w W->aat ds (λ_=>aA) V->dx V W 0 t->bJ P a0 (λV W=>aR .normal (iu V ops.toList 0 a0) W) m r xs V W) m ops.toList j [])
 (hn:a0.tmps.size=n:=by rfl) (hm:P.follows .mixedOrders=true:=by kernel_rfl) (C:rL ops n=true:=by kernel_rfl) (A:tk ops j=true:=by kernel_rfl) (y:FU j m ops.size=true:=by kernel_rfl) (M:m<=ops.size:=by decide) (B:ds.all (λk=>decide (k<m)&&!([]:List Nat).contains k)=true:=by decide) :
 (Code.region id ops aA).wp P aR a0 w :=
 QJ m [] (K w) (λw w'=>aN (Z (D w)) w w') (λ_ _ _=>True) j n ds [] (λ_ _ h k=>h.tr k) (λ_ _ h=>h) (λ_ _ _ _ _ _=>trivial) (K.rf w) (λ_=>trivial)
  (bA.imp (λr xs t h=>⟨trivial,h.1,λ_ h=>sH,λV W H _ z _ L=>h.2 V W H z L⟩) _ _ _ _ h) hn hm C A y (by simp[Df]) bq M (λ_ _ _ _ h=>h.size) B rfl
theorem bA.op(φ:aQ->aP->Prop)(st:∀v w w',φ v w->aS w w'->φ v w')
 (h:∀(V:Nat->aQ) (w:aP),R w->(∀j∈x.1,tab t j (V j) w)->if dC V o.guard=aA then eH P φ w ((aL (bP x.2 a0 V) (bR o.op o.type)).run P w)else φ undef w)
 (k:bA P a0 R aS tl Fin m r xs (t++[φ])) (e:tl.contains (Q t)=false:=by (simp only[eU,fY,List.length_nil,List.contains_nil];try rfl)):bA P a0 R aS tl Fin (m+1) (o :: r) (x :: xs) t:=aJ ⟨e,φ,st,h,k⟩
theorem bA.s(k:bA P a0 R aS tl Fin m r xs (t++[TQ]))(e:tl.contains (Q t)=true:=by (simp only[eU,fY,List.length_nil,List.contains_nil];try rfl)):bA P a0 R aS tl Fin (m+1) (o :: r) (x :: xs) t:=aI ⟨e,λ_=>True,k⟩
theorem bA.kn(ψ:aQ->Prop)(k:bA P a0 R aS tl Fin m r xs (t++[λv _=>ψ v]))(e:tl.contains (Q t)=true:=by (simp only[eU,fY,List.length_nil,List.contains_nil];try rfl)):bA P a0 R aS tl Fin (m+1) (o :: r) (x :: xs) t:=aI ⟨e,ψ,k⟩
theorem aaG c:∀v w w',bM c v w->aS w w'->bM c v w':=λ_ _ _ h _=>h
theorem bA.i{c:aQ}(k:bA P a0 R aS tl Fin m r xs (t++[bM c]))
 (h:∀(V:Nat->aQ) (w:aP),R w->(∀j∈x.1,tab t j (V j) w)->if dC V o.guard=aA then eH P (bM c) w ((aL (bP x.2 a0 V) (bR o.op o.type)).run P w)else bM c undef w:=by
  intro V W kW hp;try simp only[dE,bU,bZ,dA,dB,bM]at hp
  simp[dC,bP,aC,hp,eH,aL,bR,bM,ed,kW,qs,go_sem];rfl) (e:tl.contains (Q t)=false:=by (simp only[eU,fY,List.length_nil,List.contains_nil];try rfl)):bA P a0 R aS tl Fin (m+1) (o :: r) (x :: xs) t:=aJ ⟨e,bM c,aaG c,h,k⟩
theorem bA.is(c:aQ)
 (h:∀(V:Nat->aQ) (w:aP),R w->(∀j∈x.1,tab t j (V j) w)->if dC V o.guard=aA then eH P (bM c) w ((aL (bP x.2 a0 V) (bR o.op o.type)).run P w)else bM c undef w)
 (k:bA P a0 R aS tl Fin m r xs (t++[bM c])) (e:tl.contains (Q t)=false:=by (simp only[eU,fY,List.length_nil,List.contains_nil];try rfl)):bA P a0 R aS tl Fin (m+1) (o :: r) (x :: xs) t:=aJ ⟨e,bM c,aaG c,h,k⟩
theorem bA.d(φ:aQ->aP->Prop)(st:∀v w w',φ v w->aS w w'->φ v w'){f:FuncId}{args:(Nat->aQ)->Array aQ}
 (y:∀V W,R W->(∀j∈x.1,tab t j (V j) W)->aK P f (args V) W λe w'=>∃v,e=ak v/\φ v w'/\K W w') (k:bA P a0 R aS tl Fin m r xs (t++[φ]))
 (h:∀(V:Nat->aQ) (w:aP),R w->(∀j∈x.1,tab t j (V j) w)->dC V o.guard=aA/\(aL (bP x.2 a0 V) (bR o.op o.type)).run P w=.ok (.enter f (args V)) w:=by
  intro V W kW hp;try simp only[dE,bU,bZ,dA,dB,bM]at hp
  simp[dC,bP,aC,hp,aL,bR,qs,go_sem];try exact⟨rfl,rfl⟩
  all_goals fail) (e:tl.contains (Q t)=false:=by (simp only[eU,fY,List.length_nil,List.contains_nil];try rfl)):bA P a0 R aS tl Fin (m+1) (o :: r) (x :: xs) t :=
 aJ ⟨e,φ,st,λV W kW hp=>by rw[bT (h V W kW hp).1,(h V W kW hp).2];exact (y V W kW hp).mono λe w' ⟨v,z,A,k1⟩=>⟨v,z,A,k1⟩,k⟩
theorem bA.c(φ:aQ->aP->Prop)(st:∀v w w',φ v w->aS w w'->φ v w'){f:FuncId}{args:Array aQ}
 (y:∀W,R W->aK P f args W λe w'=>∃v,e=ak v/\φ v w'/\K W w') (k:bA P a0 R aS tl Fin m r xs (t++[φ]))
 (h:∀(V:Nat->aQ) (w:aP),R w->(∀j∈x.1,tab t j (V j) w)->dC V o.guard=aA/\(aL (bP x.2 a0 V) (bR o.op o.type)).run P w=.ok (.enter f args) w:=by
  intro V W kW hp;try simp only[dE,bU,bZ,dA,dB,bM]at hp
  simp[dC,bP,aC,hp,aL,bR,qs,go_sem];try exact⟨rfl,rfl⟩
  all_goals fail) (e:tl.contains (Q t)=false:=by (simp only[eU,fY,List.length_nil,List.contains_nil];try rfl)):bA P a0 R aS tl Fin (m+1) (o :: r) (x :: xs) t :=
 bA.d (args:=λ_=>args) φ st (λ_ W k _=>y W k) k h e
theorem bA.v{c:aQ}{f:FuncId}{args:Array aQ}(y:∀W,R W->aK P f args W λe w'=>e=ak c/\K W w')(k:bA P a0 R aS tl Fin m r xs (t++[bM c]))
 (h:∀(V:Nat->aQ) (w:aP),R w->(∀j∈x.1,tab t j (V j) w)->dC V o.guard=aA/\(aL (bP x.2 a0 V) (bR o.op o.type)).run P w=.ok (.enter f args) w:=by
  intro V W kW hp;try simp only[dE,bU,bZ,dA,dB,bM]at hp
  simp[dC,bP,aC,hp,aL,bR,qs,go_sem];try exact⟨rfl,rfl⟩
  all_goals fail) (e:tl.contains (Q t)=false:=by (simp only[eU,fY,List.length_nil,List.contains_nil];try rfl)):bA P a0 R aS tl Fin (m+1) (o :: r) (x :: xs) t :=
 bA.c (bM c) (aaG c) (λW k=>(y W k).mono λe w' ⟨z,k1⟩=>⟨c,z,rfl,k1⟩) k h e
theorem bA.row{α:Type}{S:fE α}{e:TypeId}{N:Nat->Prop}(A:TypeId)(z:aQ)(size bytes:Nat)(T:ir P A e z size bytes)(X:S.size=size)(C:size<=16777216)(B:Operand)(y:α)(H:o.op=.buildSlice A 1 #[(0,B)])(hg:o.guard=U)
 (h:∀(V:Nat->aQ) (w:aP),R w->(∀j∈x.1,tab t j (V j) w)->vX N S y (bP x.2 a0 V B) w)
 (k:bA P a0 R aS tl Fin m r xs (t++[fL N 0 e S y])) (O:∀v w w',fL N 0 e S y v w->aS w w'->fL N 0 e S y v w':=by exact aAV _ _ _ _ _) (M:tl.contains (Q t)=false:=by (simp only[eU,fY,List.length_nil,List.contains_nil];try rfl)):bA P a0 R aS tl Fin (m+1) (o :: r) (x :: xs) t:=by
 refine bA.op (fL N 0 e S y) O (λV w W hp=>?_) k M
 obtain⟨Y,L⟩:=h V w W hp
 rw[hg,bT (show dC V U=aA from rfl),H,ae0 (P:=P) (w:=w) A _ z size bytes T B rfl aZ C]
 exact⟨fL.new L 0 (eO _),(K.rf w).al _⟩
theorem bJ.p{k:Nat}{V:Nat->aQ}{w:aP}{v:aQ}(h:bJ P a0 ai (k+1) r xs (cK V k v) w)(j:(aL (bP x.2 a0 V) (bR o.op o.type)).run P w=.ok (.value v) w:=by
 simp[bP,aC,cK,hA,aL,bR,qs,go_sem];try rfl) (hg:o.guard=none:=by rfl):bJ P a0 ai k (o :: r) (x :: xs) V w:=bJ.pure v hg j h
theorem bJ.s{k:Nat}{V:Nat->aQ}{w w':aP}(h:bJ P a0 ai (k+1) r xs (cK V k undef) w')(j:(aL (bP x.2 a0 V) (bR o.op o.type)).run P w=.ok .skip w':=by
 simp[bP,aC,cK,hA,aL,bR,qs,go_sem];try rfl) (hg:o.guard=none:=by rfl):bJ P a0 ai k (o :: r) (x :: xs) V w:=bJ.skip w' hg j h
theorem bJ.e{k:Nat}{ops:List Oper}{a:Act}{V:Nat->aQ}{w:aP}(h:aR .normal a w)(e:iu V ops 0 a0=a:=by
 simp only[iu,Act.put,ue,tC,tB,Nat.reduceAdd,cK];try rfl):bJ P a0 (λV W=>aR .normal (iu V ops 0 a0) W) k [] xs V w:=bJ.nil (e▸h)
theorem bJ.h{k:Nat}{ops:List Oper}{a:Act}{V:Nat->aQ}{w:aP}(h:aR .normal a w)(e:iu V ops 0 a0=a:=by
 simp only[iu,Act.put,ue,tC,tB,Nat.reduceAdd,cK,hA];try rfl):bJ P a0 (λV W=>aR .normal (iu V ops 0 a0) W) k [] xs V w:=bJ.nil (e▸h)
end
theorem xK{l v w}(n:Nat)(h:sl l v w)(hn:n<18446744073709551616)(t:Q l<=1000000000) :
 aK prog 202 #[v,G E n] w λe w'=>∃v',e=ak v'/\Own w' (Z (D w)) 5 v' (l++bI n)/\K w w':=by
 obtain⟨A,c,rfl,j⟩:=h
 exact yU A _ c l n hn w _ j (bL _) t
theorem RC{l b v u w}(h:sl l v w)(k:sl b u w)(j:Q l<=1000000000)(hb:Q b<=1000000000) :
 aK prog 204 #[v,u] w λe w'=>∃v',e=ak v'/\Own w' (Z (D w)) 5 v' (l++jA b)/\K w w':=by
 obtain⟨A,c,rfl,t⟩:=h
 obtain⟨z,d,rfl,y⟩:=k
 apply dD (QZ A z _ c _ d l b w _ t y (bL _) j hb)
 rintro v' w'⟨B,hk⟩
 grind [sl,jA]
theorem aau w:sl [] (F U 0 0) w:=⟨U,0,rfl,Reads.nil _ _ _ _⟩
def rM(x:bW):List UInt8:=if dm x then fU x else []
theorem agn x(h:dQ x):Q (nh x)<=54:=by
 obtain⟨_,_,_,y,j,t,_⟩:=h
 grind [eM,cL,jb,nh,eU]
def Dg(x:bW)(k:Nat):List UInt8:=nh x++bI (Q x.es)++(x.es.take k).flatMap λe=>jA (lL e)
theorem avt(x:bW)(k:Nat)(h:k<Q x.es):Dg x (k+1)=Dg x k++jA (lL x.es[k]):=by unfold Dg;rw[ix h,List.flatMap_append,xV,List.flatMap_nil,List.append_nil];simp only[fN]
theorem aw1 x k(j:dQ x)(h8:Q x.es<=8)(y:∀e∈x.es,iC e=aA):Q (Dg x k)<=20000:=by
 have:=agn x j;have:=eM (Q x.es) aZ;have:=afA (x.es.take k) λe t=>⟨y e (lB t),j.2.2.2.2.2.2.2 e (lB t)⟩
 have:Q (x.es.take k)<=8:=bG;unfold Dg;simp only[eU];omega
theorem Wu x v w(h:fc x v w)(hfit:dQ x) :
 aK prog 203 #[v] w λe w' =>
  ∃v',e=ak (au #[v',G J (tA x)])/\Own w' (Z (D w)) 5 v' (rM x)/\K w w':=by
 have HC:=aY λW h=>Mz x v W h
 have h':=h
 obtain⟨vf,ve,rfl,hf,he⟩:=h
 have B:=bn.new w 128 (bQ x vf ve)
 have k1:=B.cC
 have I4:=aY (aCn h')
 have HF:=aY hfit
 have N:=aY (agn x hfit)
 obtain⟨hik,hib,hic,hil,X,hiu,aaW,anQ⟩:=hfit
 cases hok:dm x
 ·have HE:=aY (Hm hok);have HR:Hid (rM x=[]):=aY (by simp[rM,hok]);have hne:(tA x != 0)=true:=jD;go_in;go_wp2_with fail
  generalize w.alloc _=w1 at *;refine (HC.aX _ (I4.aX _ k1)).mono ?_;rintro e w2⟨rfl,t⟩;go_wp2;go_ret2;exact⟨_,rfl,Yy,k1.tr t⟩
 have HE:=aY (MM hok)
 have HR:Hid (rM x=fU x):=aY (by simp[rM,hok])
 have hne:(tA x != 0)=false:=jD
 obtain⟨-,-,hkk⟩:=FD hok
 have HH:Hid (nh x=bI (cL x.kind)++iy (x.br,x.life,x.dN)++bI (cL x.cl)++bI x.sub):=aY (by simp[nh,iy])
 have h8:x.kind=1->Q x.es<=8/\∀e∈x.es,iC e=true:=by
  grind
 have hf2:x.kind=2->okF x.f=true:=by
  grind
 have lN:x.kind=1∨x.kind=2∨x.kind=3:=aZ
 have H1:=aY λh=>Yp (x:=x) h
 have H2:=aY λh=>Yq (x:=x) h
 have H3:=aY λh1 h2=>aix (x:=x) h1 h2
 have HU:=aY (avt x)
 have HUL:=aY λk h=>aw1 x k HF.aX (h8 h).1 (h8 h).2
 have DG:Hid (Dg x 0=nh x++bI (Q x.es)):=aY (by simp[Dg])
 have HUE:Hid (Dg x (Q x.es)=nh x++bI (Q x.es)++x.es.flatMap λe=>jA (lL e)):=aY (by simp[Dg])
 obtain⟨k,b,l,s,cl,u,f,es⟩:=x
 simp only at B k1 hf he hik hib hic hil X hiu aaW anQ h8 hf2 lN HH H1 H2 H3 HU HUL DG HUE hne HE HR HC I4 N⊢
 generalize nh ⟨k,b,l,s,cl,u,f,es⟩=hd at *
 generalize Dg ⟨k,b,l,s,cl,u,f,es⟩=up at *
 generalize rM ⟨k,b,l,s,cl,u,f,es⟩=R at *
 generalize fU ⟨k,b,l,s,cl,u,f,es⟩=ai at *
 generalize tA ⟨k,b,l,s,cl,u,f,es⟩=C at *
 go_in
 go_wp2_with fail
 generalize w.alloc _=w1 at *
 generalize Z (D w)=g at B⊢
 have qx:=B.cells
 have vT:=fJ _ _ _ _ hf k1
 have E2:=cH he k1
 refine (HC.aX _ (I4.aX _ k1)).mono ?_
 rintro e w2⟨rfl,t⟩
 go_upto_region 4 with fail
 have qx2:=λW (kW:K w2 W)=>qx W (t.tr kW)
 have p0:=eM (cL k) (jb k)
 have pi0:Q (iy (b,l,s))<=27:=by have g2:=eM (cL b) (jb b);have g3:=eM l hil;have g4:=eM s X;simp only[iy,eU];omega
 have qs:=aB qx2 (FI k)
 refine eQ 7 ?_
 iterate 3 refine bA.i ?_
 refine bA.c (sl (bI (cL k))) (pQ _) (λW _=>(xK (cL k) (aau W) (jb k) bq).mono λe w'' ⟨v',e1,ho,hb⟩=>⟨v',e1,gD (bU (bI _)▸ho),hb⟩) ?_
 iterate 2 refine bA.i ?_
 refine bA.op (sl (bI (cL k)++iy (b,l,s))) (pQ _) (λV W kW hp=>?_) ?_
 ·simp only[dE,bU,bZ,dA,dB,bM]at hp;simp[dC,bP,aC,hp,eH,aL,bR,go_sem];refine (aev _ _ (b,l,s) W hp.1 aZ ⟨hib,hil,X⟩).mono ?_;rintro e w''⟨v',rfl,ho,hb⟩;exact⟨v',rfl,gD ho,hb⟩
 intro V w3 k3 hA
 simp only[bU,bZ,dx,bM,Nat.reduceAdd]at hA
 refine bJ.p (bJ.h ?_)
 have h7:=hA.2.2.2.2.2.2.1
 generalize V 6=v3 at *
 replace t:=t.tr k3
 have nZ:Q (bI (cL k)++iy (b,l,s))<=100:=cG
 generalize bI (cL k)++iy (b,l,s)=b3 at *
 go_wp2_with fail
 rw[FI cl]
 refine (xK (cL cl) h7 (jb cl) aZ).mono ?_
 rintro e w4⟨v4,rfl,ij,k4⟩
 have h4:=gD ij
 replace t:=t.tr k4
 have jy:Q (b3++bI (cL cl))<=110:=by have:=eM (cL cl) (jb cl);simp;omega
 generalize b3++bI (cL cl)=b4 at *
 go_wp2_with fail
 refine (xK u h4 hiu aZ).mono ?_
 rintro e w5⟨v5,rfl,S,k5⟩
 rw[<- HH.aX]at S
 have h5:=gD S
 have hrow:=wK (base:=Z (D w)) (cI k1.size t.size) S rfl
 replace t:=t.tr k5
 have DH:=k1.tr t
 obtain rfl|rfl|rfl:=lN
 ·obtain⟨h8,hall⟩:=h8 rfl;obtain⟨aT,d,rfl,hes,hd⟩:=E2;have mH:=N.aX;go_wp2_with fail
  refine (xK (Q es) h5 aZ aZ).mono ?_;rintro e w6⟨v6,rfl,z,A⟩;rw[<- DG.aX]at z;have TC:=wK (base:=Z (D w)) (cI k1.size t.size) z rfl;replace t:=t.tr A;go_wp2_with fail
  go_loopw [5,7,8,9,46] (fun o _ _ _ i wr=>∃j:Nat,j<=Q es/\i=G J j/\Own wr (Z (D w)) 5 o (up j)/\K w1 wr) (fun _ _ _ _ i _=>Q es-(aO i).toNat)
  case atStart=>exact⟨0,aZ,rfl,TC,t⟩
  case round =>
   obtain⟨j,hj,rfl,hown,kr⟩:=hrel;by_cases H:j<Q es
   ·have cd:(j:Int)<Q es:=aZ;obtain⟨b1,off,cs,rfl,cD,hcl,⟨ve,rfl,mE⟩,hcell⟩:=KB hes j H bC;have d0:wr.cell? ⟨b1,off+j,U⟩=I ve:=Yz;have ID:=nL _ _ _ _ mE kr;have hs:=HU.aX j H;have T:=hall _ (dG H);have rr:=anQ _ (dG H);have hl9:=HUL.aX j Np;have hle:=XF T rr;generalize es[j]=O at *;have hc1:my O=0:=by simp[my,T]
    have Y:EO O=lL O:=by simp[EO,T]
    have HS:=aY hs;go_wp2_with fail
    refine (avr ID rr).mono ?_;rintro e w7⟨v7,rfl,y,M⟩;rw[Y]at y;have h7:=gD y;have h57:=pQ _ _ _ _ (gD hown) M;have L:=kr.tr M;go_wp2_with fail
    refine (RC h57 h7 aZ aZ).mono ?_;rintro e w8⟨v8,rfl,ho8,k8⟩;rw[<- HS.aX]at ho8;have aC7:=wK (base:=Z (D w)) (cI k1.size L.size) ho8 rfl;replace L:=L.tr k8;go_wp2;go_roundw
    case rel=>exact⟨j+1,aZ,cU,aC7,L⟩
    case measure=>simp[aO];omega
   ·have cd:¬(j:Int)<Q es:=aZ;obtain rfl:j=Q es:=aZ;have hfin:Own wr (Z (D w)) 5 u5 R:=by rw[HR.aX,H1.aX Np,<- fN,<- HUE.aX];exact hown
    go_wp2;go_ret2;exact⟨_,jD,hfin,k1.tr kr⟩
 ·have aaY:=hf2 rfl;have mH:=N.aX;have hc1:pA f=0:=by simp[pA,aaY]
  have Y:EJ f=lD f:=by simp[EJ,aaY]
  have hlf:=agi aaY aaW;have HIF:=aY aaW;go_wp2_with fail
  refine (at8 (fJ _ _ _ _ vT t) HIF.aX).mono ?_;rintro e w6⟨v6,rfl,z,A⟩;rw[Y]at z;have h6:=gD z;have h56:=pQ _ _ _ _ h5 A;replace t:=t.tr A;go_wp2_with fail
  refine (RC h56 h6 aZ aZ).mono ?_;rintro e w7⟨v7,rfl,y,M⟩;rw[<- H2.aX Np]at y;rw[<- HR.aX]at y;have aC8:=wK (base:=Z (D w)) (cI k1.size t.size) y rfl;replace t:=t.tr M;go_wp2;go_ret2;exact⟨_,jD,aC8,k1.tr t⟩
 ·have hfin:Own w5 (Z (D w)) 5 v5 R:=by rw[HR.aX,H3.aX bC bC];exact hrow
  go_wp2;go_ret2;simp_all
theorem atd A n c b w B(hR:Reads w B 1 A n (fM b))(hB:B<=Z (D w))(hn:n<=1000000000) :
 aK prog 197 #[F A n c] w λe w' =>
  ∃v',e=ak (au #[v',G J (Bq b)])/\sO w' (Z (D w)) v' (Bo b)/\aN (Z (D w)) w w':=by
 have dt:Q b=n:=Hw
 have hle:Q b<=1000000000:=aZ
 clear dt
 go_in
 go_wp2_with fail
 refine (MV A n c b w B hR hB hn).mono ?_
 rintro e C⟨g,rfl,hg,hr1,X⟩
 go_wp2_with fail
 refine (vC g b az C hr1).mono ?_
 rintro e w2⟨rfl,cZ,gg⟩
 have N:=hr1.lt
 have hz2:=gg.size
 have fw:=X.trans (mN gg hg X.size)
 have hlt:=pN b az
 have aaP:=pL b az
 have M:Hid (vM b=if decide ((bE b az).1<=16)&&!(iM (bE b az).1 (bE b az).2.1 (bE b az).2.2).2.2&&(iM (bE b az).1 (bE b az).2.1 (bE b az).2.2).2.1.isEmpty&&iC (iM (bE b az).1 (bE b az).2.1 (bE b az).2.2).1 then I (iM (bE b az).1 (bE b az).2.1 (bE b az).2.2).1 else U):=aY rfl
 generalize bE b az=a at *
 obtain⟨m,l,bad⟩:=a
 simp only at cZ hlt aaP M⊢
 clear hr1 X hR
 by_cases jx:m<=16
 rotate_left
 ·have Bn:(16:Int)<(m:Int):=aZ;have HE:Hid (Bq b=40):=aY (by have:=M.aX;simp[jx]at this;simp[Bq,this]);have HL:Hid (Bo b=[]):=aY (by have:=M.aX;simp[jx]at this;simp[Bo,this]);exact aip
 have Bn:¬(16:Int)<(m:Int):=aZ
 go_wp2_with fail
 go_loopw [6,7,15] (fun v _ i j=>∃k:Nat,k<=m/\i=G E k/\sO j (Z (D C)) v (iM k l bad).1/\Rd j g (iM k l bad).2.1 (iM k l bad).2.2/\aN (Z (D w)) w j/\Z (D C)<=Z (D j)) (fun _ _ i _=>m-(aO i).toNat)
 case atStart=>exact⟨0,aZ,rfl,mr _ _ _ _,cZ,fw,hz2⟩
 case round =>
  obtain⟨k,hk,rfl,z,H,hb,hz⟩:=hrel;by_cases hlt:k<m
  ·have gJ:(k:Int)<m:=aZ;have L:=XE k l bad;have hfit:∀s,iM k l bad=s->iM (k+1) l bad=(s.1++[(vU s.2.1 s.2.2).1],(vU s.2.1 s.2.2).2):=λs e=>by subst e;rfl
   generalize hs:iM k l bad=s at *;have hfit:=hfit s rfl;obtain⟨y,t,j⟩:=s;simp only at z H L;obtain⟨aDH,aaQ⟩:=L;have aDI:Q y<=16:=aZ;clear aaQ;have Y:=aY (QR g t j 16 wr H aZ aZ aZ);have ll:=FN 16 t j;have O:Hid (iM (k+1) l bad=(y++[((⟨(bY 16 t j).1.toArray⟩,(ig (bY 16 t j).2.1 (bY 16 t j).2.2).1.1,(ig (bY 16 t j).2.1 (bY 16 t j).2.2).1.2.1,⟨(ig (bY 16 t j).2.1 (bY 16 t j).2.2).1.2.2.toArray⟩):dW)],(ig (bY 16 t j).2.1 (bY 16 t j).2.2).2)):=aY hfit;clear hfit hs;have gj:=R6 (bY 16 t j).2.1 (bY 16 t j).2.2;have S:Hid (∀W,Rd W g (bY 16 t j).2.1 (bY 16 t j).2.2->aK prog 260 #[aj (I ⟨g,0,U⟩)] W λe w'=>e=ak (vd (ig (bY 16 t j).2.1 (bY 16 t j).2.2).1)/\pU g (ig (bY 16 t j).2.1 (bY 16 t j).2.2).2.1 (ig (bY 16 t j).2.1 (bY 16 t j).2.2).2.2 W w'):=aY λW hW=>aeJ g _ _ W hW aZ
   generalize bY 16 t j=sb at *;obtain⟨nm,lb,wb⟩:=sb;simp only at Y S O ll gj;generalize ig lb wb=sv at *;obtain⟨⟨vk,vn,vt⟩,lv,wv⟩:=sv;simp only[vd]at S O gj;go_wp2_with fail
   refine Y.aX.mono ?_;rintro e w3⟨v3,rfl,iB,fP,T⟩;have hst:=str (gD iB);have mf:=T.size;have F4:=Nr z T N;have dy:=hb.trans (mN T hg hb.size);clear z H T hb Y;go_wp2_with fail
   refine (S.aX _ fP).mono ?_;rintro e w4⟨rfl,gF,V⟩;have lq:=V.size;have Io:=Nr F4 V N;have hb4:=dy.trans (mN V hg dy.size);clear F4 fP V dy S hst iB;go_wp2_with (at_builtin;refine j9 rfl _ _ 35 rfl (Z (D C)) 88 _ 4 48 TE _ _ _ rfl (sK Io _) (Z (D w4)+1) _ 1 1 (lV (⟨nm.toArray⟩,vk,vn,⟨vt.toArray⟩)) rfl ?c1 ?c2 ?c3 ?c5 ?_)
   case c1=>exact Reads.new w4 (lV (⟨nm.toArray⟩,vk,vn,⟨vt.toArray⟩)) 88 4 1 rfl
   case c2=>exact aha _
   case c3=>omega
   case c5=>simp;omega
   intro v5 w5 Og sX anR R;have TA:sO w5 (Z (D C)) v5 (iM (k+1) l bad).1:=by
    rw[O.aX]
    unfold sO
    grind
   have j0:Rd w5 g (iM (k+1) l bad).2.1 (iM (k+1) l bad).2.2:=by rw[O.aX];exact (gF.bF (Below.alloc (ed _ _) (bL _) _)).below R N
   have aDQ:=(hb4.alloc hb4.size _).trans (R.mono aZ);have tQ:Z (D C)<=Z (D w5):=by have:=R.size;simp at this;omega
   clear Og sX anR R gF Io hb4;go_wp2;go_roundw
   case rel=>exact⟨k+1,aZ,cU,TA,j0,aDQ,tQ⟩
   case measure=>simp[aO];omega
  ·have gJ:¬(k:Int)<m:=aZ;obtain rfl:k=m:=aZ;clear hlt hk;have L:=(XE k l bad).2;generalize iM k l bad=s at *;obtain⟨y,t,j⟩:=s;simp only at z H M L;clear L;have Oh:∀x:Bool,x=(!j&&t.isEmpty&&iC y)->Hid (Bq b=(if x then 0 else 40))/\Hid (Bo b=if x then y else []):=by
    intro x hx
    have h:=M.aX
    rw[show (decide (k<=16))=aA by simp;omega]at h
    cases x with
    | true=>rw[Bool.true_and,<- hx]at h;exact⟨aY (by simp[Bq,h]),aY (by simp[Bo,h])⟩
    | false=>rw[Bool.true_and,<- hx]at h;exact⟨aY (by simp[Bq,h]),aY (by simp[Bo,h])⟩
   have Uq:=aY Oh;clear Oh;go_wp2_with fail
   refine (MK g _ _ wr H).mono ?_;rintro e w'⟨rfl,rfl⟩;cases hd:(!j&&t.isEmpty)
   ·exact ait
   ·obtain⟨A',c',rfl,hR',_,_⟩:=z.slice;have hrow:=oy (cI hg (Nat.le_of_lt N)) z;go_wp2_with fail
    refine (WE A' c' y wr (Z (D wr)) hR' (bL _)).mono ?_;rintro e w6⟨rfl,lQ⟩;have aaS:=hb.trans (lQ.mono hb.size);have TC:=sG hrow lQ;cases hok:iC y
    ·have hne:(my y != 0)=true:=Sc;exact aiu
    ·have hne:(my y != 0)=false:=Sc;exact aiv
section
variable {l la lb:List dW} {b:List UInt8} {v va vb:aQ} {w:aP}
theorem aw2(h:sl b v w)(hn:Q b<=1000000000):aK prog 197 #[v] w λe w' =>
 ∃v',e=ak (au #[v',G J (Bq b)])/\sO w' (Z (D w)) v' (Bo b)/\aN (Z (D w)) w w':=by
 obtain⟨A,c,rfl,j⟩:=h
 exact atd A _ c b w _ j (bL _) hn
end
structure DS(w0:aP)(t:TypeId)(z:Array aQ)(r g h:Nat)(l:List UInt8)(wr:Bool)(cs:Array aQ)(W:aP):Prop where
 rd:Rd W g l wr
 x:bn W h t cs
 rv:bn W r t z
 k:K w0 W
 o:Z (D w0)<=r/\r<g/\g<h
section
variable {w0 W W':aP} {t:TypeId} {z cs:Array aQ} {r g h:Nat} {l l':List UInt8} {wr wr':Bool} {row:Option Nat}
theorem DS.went(j:DS w0 t z r g h l wr cs W)(H:pU g l' wr' W W'):DS w0 t z r g h l' wr' cs W':=by have o:=j.o;exact⟨H.1,j.x.went H aZ,j.rv.went H aZ,j.k.trans (mN H.2 aZ j.k.size),o⟩
theorem DS.set(j:DS w0 t z r g h l wr cs W) i u:DS w0 t z r g h l wr (cs.setIfInBounds i u) (aV W ⟨h,i,U⟩ u):=by have o:=j.o;exact⟨j.rd.set aZ i u,j.x.cz i u,j.rv.far bG u,j.k.setCell bG u,o⟩
theorem DS.gr(j:DS w0 t z r g h l wr cs W)(k:K W W'):DS w0 t z r g h l wr cs W' :=
 ⟨j.rd.bF k,j.x.bF k,j.rv.bF k,j.k.tr k,j.o⟩
theorem DS.mut(j:DS w0 t z r g h l wr cs W)(m:W.grownBy W' row)(A:∀b,row=I b->h<b):DS w0 t z r g h l wr cs W':=by have o:=j.o;have hb:aN (h+1) W W':=⟨m.os,m.tape,m.output,m.size,λi y=>m.block i (cQ y j.x.lt) bG⟩;exact⟨j.rd.below hb aZ,j.x.below hb aZ,j.rv.below hb aZ,j.k.trans (hb.mono aZ),o⟩
theorem bV.went{lo}(H:pU g l' wr' W W')(hg:g<lo):bV lo U W W':=(bV.gy H.2 lo).more (bL _) (λk hk _=>cG)
theorem bV.set{lo b}(hb:b<lo) i u:bV lo U W (aV W ⟨b,i,U⟩ u) :=
 ⟨rfl,rfl,rfl,Yu,λk hk _ _=>Below.heap_setCell W ⟨b,i,U⟩ u k cG⟩
end
theorem K.set{w0 W r}(h:K w0 W)(j:Z (D w0)<=r) i u:K w0 (aV W ⟨r,i,U⟩ u):=h.setCell j u
theorem K.sets{w0:aP}{r:Nat}(j:Z (D w0)<=r):∀(us:List aQ) (q:Nat) (W:aP),K w0 W->K w0 (dL W r q us)
 | [],_,_,h=>h
 | u :: us,q,W,h=>K.sets j us _ _ (h.set j q u)
theorem bV.sets{lo b:Nat}(hb:b<lo):∀(us:List aQ) (q:Nat) (W:aP),bV lo U W (dL W b q us)
 | [],_,_=>bV.rf _ _ _
 | u :: us,q,W=>(bV.set hb q u).tr (bV.sets hb us _ _)
section
variable {w0 W:aP} {t:TypeId} {z:Array aQ} {r g h:Nat} {l:List UInt8} {wr:Bool}
theorem DS.sets:∀(q:Nat) (us:List aQ) {W:aP} {cs:Array aQ},DS w0 t z r g h l wr cs W->DS w0 t z r g h l wr (qM cs.toList q us).toArray (dL W h q us)
 | q,[],W,cs,aT=>by simpa [qM,dL]using aT
 | q,u :: us,W,cs,aT=>by have:=(aT.set q u).sets (q+1) us;simpa [qM,dL,Array.toList_setIfInBounds]using this
theorem DS.put{cs}(aT:DS w0 t z (Z (D w0)) g h l wr cs W) us(j:Q us=z.size):bn (dL W (Z (D w0)) 0 us) (Z (D w0)) t us.toArray/\K w0 (dL W (Z (D w0)) 0 us)/\bV (h+1) U W (dL W (Z (D w0)) 0 us) :=
 ⟨Cy aT.rv j,K.sets (bL _) _ _ _ aT.k,bV.sets YA _ _ _⟩
end
theorem sO.rel{w B v l}(h:sO w B v l):∀w',bV B U w w'->dS.rel l [v] w':=by intro w' u;refine⟨v,rfl,aif (base:=B) ⟨h.1,h.2.imp id ?_⟩⟩;exact Yr
theorem iF.rel{w B v l}(h:iF w B v l):∀w',bV B U w w'->fQ l v w':=by intro w' u;refine yZ (base:=B) ⟨h.1,h.2.imp id ?_⟩;exact Yr
abbrev zEL:List aQ:=[G J 0,G J 0,G E 0,G E 0,G J 0,G E 0,F U 0 0,F U 0 0]
abbrev gE:Array aQ:=#[G J 0,G J 0,G E 0,G E 0,G J 0,G E 0,F U 0 0,F U 0 0]
theorem aCp:(prog.info? 35).map (λi=>(i.zero,i.size,i.bytes))=I (I (F U 0 0),1,24):=by rfl
theorem Ln:ir prog 43 35 (F U 0 0) 1 24:=⟨underlying43,aCp,rfl,bC⟩
theorem MY g l wr j w(h:Rd w g l wr)(t:Q l<=1000000000)(A:-9223372036854775808<=j)(y:j<=9223372036854775807) :
 aK prog 136 #[aj (I ⟨g,0,U⟩),G J j] w λe w'=>∃v,e=ak v/\sl (bY j l wr).1 v w'/\pU g (bY j l wr).2.1 (bY j l wr).2.2 w w' :=
 (QR g l wr j w h t A y).mono λ_ _ ⟨v,e,B,z⟩=>⟨v,e,gD B,z⟩
theorem aw3{n l wr}(h:vM (bY n l wr).1=U):(nR n l wr).2.2=true:=by
 grind [nR]
theorem aw4{n l wr e}(h:vM (bY n l wr).1=I e):nR n l wr=(e,(bY n l wr).2):=by
 grind [nR]
theorem aw5{n l wr}(h:tv (bY n l wr).1=U):(sP n l wr).2.2=true:=by
 grind [sP]
theorem aw6{n l wr e}(h:tv (bY n l wr).1=I e):sP n l wr=(e,(bY n l wr).2):=by
 grind [sP]
theorem aw7{b}(h:vM b=U):Bq b=40/\Bo b=[]:=by simp[Bq,Bo,h]
theorem aw8{b l}(h:vM b=I l):Bq b=0/\Bo b=l:=by simp[Bq,Bo,h]
theorem avu{b}(h:tv b=U):xU b=50/\xT b=[]:=by simp[xU,xT,h]
theorem avv{b l}(h:tv b=I l):xU b=0/\xT b=l:=by simp[xU,xT,h]
theorem aua b k br j y cl t l wr(h:jd b az=((k,br,j,y,cl,t),l,wr)) :
 (min k 4=1->∀m z A,bE l wr=(m,z,A)->jP b=if !(eZ (nR (Q b)) (min m 9) z A).2.2&&(eZ (nR (Q b)) (min m 9) z A).2.1.isEmpty&&dm { qO (k,br,j,y,cl,t)with es:=(eZ (nR (Q b)) (min m 9) z A).1 }then I { qO (k,br,j,y,cl,t)with es:=(eZ (nR (Q b)) (min m 9) z A).1 }else U) /\
 (min k 4=2->jP b=if !(sP (Q b) l wr).2.2&&(sP (Q b) l wr).2.1.isEmpty&&dm { qO (k,br,j,y,cl,t)with f:=(sP (Q b) l wr).1 }then I { qO (k,br,j,y,cl,t)with f:=(sP (Q b) l wr).1 }else U) /\
 (min k 4≠1->min k 4≠2->jP b=if !wr&&l.isEmpty&&dm (qO (k,br,j,y,cl,t))then I (qO (k,br,j,y,cl,t))else U):=by
 refine⟨λC m z A hn=>?_,λB=>?_,λC B=>?_⟩
 ·unfold jP sQ;rw[h];simp only[C,hn,if_true]
 ·unfold jP sQ;rw[h];simp only[B,if_true,show ¬((2:Nat)=1) by decide,if_false]
 ·unfold jP sQ;rw[h];simp only[C,B,if_false]
theorem Ra{b}(h:jP b=U):AX b=110/\nM b=fo:=by simp[AX,nM,h]
theorem W6{b x}(h:jP b=I x):AX b=0/\nM b=x:=by simp[AX,nM,h]
theorem Wv b v w(h:sl b v w)(hn:Q b<=1000000000) :
 aK prog 135 #[v] w λe w' =>
  ∃v',e=ak (au #[v',G J (AX b)])/\(∀W,bV (Z (D w)) U w' W->fc (nM b) v' W)/\K w w':=by
 obtain⟨A,c,rfl,hR⟩:=h
 have fH:=bn.new w 128 gE
 have k0:=fH.cC
 have DI:=(hR.below k0 (bL _)).more k0.size
 obtain⟨k,l1,e1,sk⟩:∃k l1 e1,bE b az=(k,l1,e1):=⟨_,_,_,rfl⟩
 obtain⟨br,l2,e2,uH⟩:∃k l2 e2,bE l1 e1=(k,l2,e2):=⟨_,_,_,rfl⟩
 obtain⟨t,l3,e3,Ux⟩:∃k l3 e3,bE l2 e2=(k,l3,e3):=⟨_,_,_,rfl⟩
 obtain⟨y,l4,e4,Uy⟩:∃k l4 e4,bE l3 e3=(k,l4,e4):=⟨_,_,_,rfl⟩
 obtain⟨cl,l5,e5,Uz⟩:∃k l5 e5,bE l4 e4=(k,l5,e5):=⟨_,_,_,rfl⟩
 obtain⟨L,C,H,O7⟩:∃k C H,bE l5 e5=(k,C,H):=⟨_,_,_,rfl⟩
 have HP:=aua b k br t y cl L C H (by simp only[jd,sk,uH,Ux,Uy,Uz,O7])
 have uI:Q C<=Q b:=by have g1:=pL b az;have g2:=pL l1 e1;have g3:=pL l2 e2;have g4:=pL l3 e3;have g5:=pL l4 e4;have g6:=pL l5 e5;rw[sk]at g1;rw[uH]at g2;rw[Ux]at g3;rw[Uy]at g4;rw[Uz]at g5;rw[O7]at g6;simp only at g1 g2 g3 g4 g5 g6;omega
 have C1:=λg W h=>MF g b az 4 W h aZ
 have C2:=λg W h=>aeK g l1 e1 W h
 have C3:=λg W h=>MF g l4 e4 32 W h aZ
 have C4:=λg W h=>vC g l5 e5 W h
 simp only[ER,sk,uH,Ux,Uy,Uz,O7]at C1 C2 C3 C4
 clear sk uH Ux Uy Uz O7
 replace HP:=aY HP
 replace C1:=aY C1
 replace C2:=aY C2
 replace C3:=aY C3
 replace C4:=aY C4
 have hk4:min k 4<=4:=aZ
 generalize hkk:min k 4=kk at *
 generalize rh:min br 16=N at *
 generalize zy:min cl 32=cc at *
 have HX:Hid (qO (k,br,t,y,cl,L)=⟨kk,N,t,y,cc,L,[],[]⟩):=aY (by simp only[qO,hkk,rh,zy])
 clear hkk rh zy
 generalize qO (k,br,t,y,cl,L)=X0 at *
 go_in
 go_wp2_with fail
 generalize w.alloc _=w1 at *
 refine (MV A _ c b w1 _ DI (bL _) hn).mono ?_
 rintro e w2⟨g,rfl,hg,nE,k2⟩
 have cZ:=fH.bF k2
 have hrg:=cQ fH.lt hg
 replace k0:=k0.tr k2
 clear hR DI hg k2 fH
 go_wp2_with fail
 refine (C1.aX g w2 nE).mono ?_
 rintro e w3⟨rfl,hw3⟩
 have fP:=cZ.went hw3 aZ
 have k3:K w w3:=k0.trans (mN hw3.2 aZ k0.size)
 have zu:=hw3.1
 have Ot:=zu.lt
 clear nE cZ hw3 k0
 go_wp2_with fail
 have aT:DS w 128 gE (Z (D w)) g (Z (D w3)) l1 e1 #[G J kk,G J 0,G E 0,G E 0,G J 0,G E 0,F U 0 0,F U 0 0]
  (aU w3 (aq #[G J kk,G J 0,G E 0,G E 0,G J 0,G E 0,F U 0 0,F U 0 0] 128)) :=
  ⟨zu.al _,bn.new _ _ _,fP.alloc _,k3.al _,bL _,hrg,Ot⟩
 clear zu fP k3 Ot hrg
 generalize w3.alloc _=w4 at *
 generalize Z (D w3)=h at *
 refine (C2.aX g w4 aT.rd).mono ?_
 rintro e w5⟨rfl,O8⟩
 replace aT:=aT.went O8
 clear O8
 have q:=aT.x.cell
 have z:=aT.x.frozen
 go_upto_region 4 with fail
 replace aT:DS w 128 gE (Z (D w)) g h l4 e4 #[G J kk,G J N,G E t,G E y,G J 0,G E 0,F U 0 0,F U 0 0] (((aV w5 ⟨h,1,U⟩ (G J N)).setCell ⟨h,2,U⟩ (G E t)).setCell ⟨h,3,U⟩ (G E y)):=((((((aT).set 1 (G J N))).set 2 (G E t))).set 3 (G E y))
 clear q z
 generalize (((aV w5 _ _).setCell _ _).setCell _ _)=w6 at *
 go_wp2_with fail
 refine (C3.aX g w6 aT.rd).mono ?_
 rintro e w7⟨rfl,hw7⟩
 replace aT:=aT.went hw7
 clear hw7
 have q:=aT.x.cell
 have z:=aT.x.frozen
 go_upto_region 5 with fail
 replace aT:DS w 128 gE (Z (D w)) g h l5 e5 #[G J kk,G J N,G E t,G E y,G J cc,G E 0,F U 0 0,F U 0 0] (aV w7 ⟨h,4,U⟩ (G J cc)):=((aT).set 4 (G J cc))
 clear q z
 generalize w7.setCell _ _=w8 at *
 go_wp2_with fail
 refine (C4.aX g w8 aT.rd).mono ?_
 rintro e w9⟨rfl,hw9⟩
 replace aT:=aT.went hw9
 clear hw9
 have q:=aT.x.cell
 have z:=aT.x.frozen
 go_upto_region 6 with fail
 replace aT:DS w 128 gE (Z (D w)) g h C H #[G J kk,G J N,G E t,G E y,G J cc,G E L,F U 0 0,F U 0 0] (aV w9 ⟨h,5,U⟩ (G E L)):=((aT).set 5 (G E L))
 clear q z C1 C2 C3 C4
 generalize w9.setCell _ _=wa at *
 have Uo:=aT.o
 have HM:=aY (λ(l:List UInt8) wr=>J9 (Q b:Int) l wr)
 have Ou:((Q b:Nat):Int)<=9223372036854775807:=aZ
 have q:=aT.x.cell
 go_upto_block 0 with fail
 go_cut [6,7,8,9]from 26 to 64 (fun _ _ _ _ W=>∃(X:bW) (l:List UInt8) (e:Bool) (vf ve:aQ),DS w 128 gE (Z (D w)) g h l e (bQ X vf ve) W /\
  (∀W',bV (h+1) U W W'->fQ X.f vf W')/\(∀W',bV (h+1) U W W'->bw dS X.es ve W')/\Hid (jP b=if !e&&l.isEmpty&&dm X then I X else U))
 case first =>
  by_cases je:kk=1
  ·subst je;replace aT:DS w 128 gE (Z (D w)) g h C H #[G J (1:Int),G J N,G E t,G E y,G J cc,G E L,F U 0 0,F U 0 0] wa:=aT;obtain⟨m,l7,e7,UA⟩:∃k la ea,bE C H=(k,la,ea):=⟨_,_,_,rfl⟩;rw[show ((1:Nat):Int)=1 from rfl]at HX;have BU:=aY (HP.aX.1 rfl m l7 e7 UA);rw[HX.aX]at BU;have Pa:Q l7<=Q b:=by have:=pL C H;rw[UA]at this;simp only at this;omega
   have C7:=λg W h=>MF g C H 9 W h aZ
   simp only[UA]at C7;clear UA HP HX;have hm9:min m 9<=9:=aZ;generalize min m 9=M at *;go_wp2_with fail
   clear q;refine (C7 g wa aT.rd).mono ?_;rintro e wb⟨rfl,Pb⟩;replace aT:=aT.went Pb;clear Pb C7;have HQ:=aY (λk l wr=>Nt (ML (Q b:Int)) k l wr);have anT:=aY (λk (hk:k<=M) (hb:(eZ (nR (Q b:Int)) k l7 e7).2.2=aA)=>show AX b=110/\nM b=fo from Ra (by
    have:=Yi (ML (Q b:Int)) hb (M-k);rw[show k+(M-k)=M by omega]at this;rw[BU.aX,this];rfl))
   go_wp2_with fail
   go_loopw [6,7,30] (fun _ _ i W=>∃j:Nat,j<=M/\i=G J j/\∃es ve S R,Hid (eZ (nR (Q b:Int)) j l7 e7=(es,S,R)) /\
    DS w 128 gE (Z (D w)) g h S R #[G J (1:Int),G J N,G E t,G E y,G J cc,G E L,F U 0 0,ve] W /\
    cE (h+1) (h+1) 35 dS es ve W) (λ_ _ i _=>M-(aO i).toNat)
   case atStart=>exact⟨0,aZ,rfl,[],_,l7,e7,aY rfl,aT,cE.nil _ _ _ _ _⟩
   case round =>
    clear aT;obtain⟨j,hj,rfl,es,ve,S,R,HJ,aT,hO⟩:=hrel;have hlq:=HQ.aX j l7 e7;rw[HJ.aX]at hlq;simp only at hlq;obtain⟨aJp,aDR⟩:=hlq;have aJq:Q es<=9:=aZ;clear aDR;by_cases hlt:j<M
    ·have cd:(j:Int)<M:=aZ;go_wp2_with fail
     refine (MY g S R (Q b:Int) wr aT.rd aZ aZ Ou).mono ?_;rintro e wc⟨vb,rfl,p8,hwc⟩;replace aT:=aT.went hwc;replace hO:=hO.up (bL _) (bV.went hwc YA);have hlb:=HM.aX S R;have aDS:=FN (Q b:Int) S R;have zA:=aY (@aw3 (Q b:Int) S R);have yB:=aY (λe h=>@aw4 (Q b:Int) S R e h);have DJ:Hid (eZ (nR (Q b:Int)) (j+1) l7 e7=(es++[(nR (Q b:Int) S R).1],(nR (Q b:Int) S R).2)):=aY (by
      have:=HJ.aX;rw[eZ,this])
     clear hwc;generalize bY (Q b:Int) S R=B at *;obtain⟨bs,lk,ek⟩:=B;simp only at p8 aT hO hlb aDS zA yB;go_wp2_with fail
     refine (aw2 p8 aZ).mono ?_;rintro e wd⟨v9,rfl,V,k9⟩;have uJ:=aT.x.lt;have oQ:=hO.blk;replace aT:=aT.gr k9;replace hO:=hO.st k9;clear p8;cases mU:vM bs with
     | none => have O:=aw7 mU;have HN:=aY (anT.aX (j+1) aZ (by rw[DJ.aX];exact zA.aX mU));rw[O.1];clear mU O V;exact Sg
     | some ev =>
      have O:=aw8 mU;rw[O.1];rw[O.2]at V;have Gx:Hid (eZ (nR (Q b:Int)) (j+1) l7 e7=(es++[ev],lk,ek)):=aY (by rw[DJ.aX,yB.aX _ mU]);clear mU O DJ zA yB HJ;have UB:=aY V.rel;obtain⟨Y,T,rfl⟩:=tc (aif V);clear V;obtain⟨css,hown,hcl,oR⟩:=hO;have q:=aT.x.cell;have kA:=K.new wd (aq #[F Y (Q ev) T] 35);have hbase:h+1<=Z (D (aU wd (aq #[F Y (Q ev) T] 35))):=by have:=kA.size;have:=aT.x.lt;omega
      go_wp2_with (at_builtin;refine j9 rfl _ _ 43 rfl (h+1) 35 _ 1 24 Ln _ _ _ rfl (sK hown _) (Z (D wd)+1) _ 1 1 [F Y (Q ev) T] rfl ?c1 ?c2 ?c3 hbase ?_)
      case c1=>exact Reads.new wd [F Y (Q ev) T] 35 1 1 rfl
      case c2=>intro u hu;simp at hu;subst hu;rfl
      case c3=>omega
      intro v9 w9 jc dF fO _;have DA:=aT.gr kA;replace DA:=DA.mut dF (λb0 hb0=>(oQ b0 hb0).1);have cR:=cE.snoc hcl (λw' u=>oR w' (bV.tr (bV.bS kA _ _) u)) jc dF vE
       (λw' u=>UB.aX w' ((bV.tr (bV.bS kA _ _) u).more aZ (λk hk _ e=>by have:=(oQ k e.symm).2;omega)))
      clear jc dF fO hown oR aT q;obtain⟨Lo,Lp,rfl,-⟩:=cR.slice;have q:=DA.x.cell;have z:=DA.x.frozen;go_upto_region 14 with fail;have hsz:Q (es++[ev])=Q es+1:=bq;rw[hsz]at cR;clear hsz q z;replace DA:DS w 128 gE (Z (D w)) g h lk ek #[G J (1:Int),G J N,G E t,G E y,G J cc,G E L,F U 0 0,F Lo (Q es+1) Lp] (aV w9 ⟨h,7,U⟩ (F Lo (Q es+1) Lp)):=DA.set 7 (F Lo (Q es+1) Lp);replace cR:=cR.up (w':=w9.setCell ⟨h,7,U⟩ (F Lo (Q es+1) Lp)) (bL _) (bV.set aZ 7 _);generalize w9.setCell _ _=wt at *;go_wp2;go_roundw
      case rel=>exact⟨j+1,aZ,cU,es++[ev],_,lk,ek,Gx,DA,cR⟩
      case measure=>simp[aO];omega
    ·have cd:¬(j:Int)<M:=aZ;obtain rfl:j=M:=aZ;have HD:=BU.aX;rw[HJ.aX]at HD;simp only at HD;replace HD:=aY HD;obtain⟨Lo,Lp,rfl,-⟩:=hO.slice;have HF:∀W',bV (h+1) U wr W'->fQ [] (F U 0 0) W':=λ_ _=>⟨U,0,rfl,Reads.nil _ _ _ _⟩
     have HE:∀W',bV (h+1) U wr W'->bw dS es (F Lo (Q es) Lp) W':=λW' u=>(hO.up (bL _) u).bw
     clear anT BU HJ HQ hO;go_wp2;go_meet
     case rel=>exact⟨⟨1,N,t,y,cc,L,[],es⟩,S,R,_,_,aT,HF,HE,HD⟩
  by_cases hk2:kk=2
  ·subst hk2;replace aT:DS w 128 gE (Z (D w)) g h C H #[G J (2:Int),G J N,G E t,G E y,G J cc,G E L,F U 0 0,F U 0 0] wa:=aT;rw[show ((2:Nat):Int)=2 from rfl]at HX;have BU:=aY (HP.aX.2.1 rfl);rw[HX.aX]at BU;clear HP HX;go_wp2_with fail
   clear q;refine (MY g C H (Q b:Int) wa aT.rd aZ aZ Ou).mono ?_;rintro e wc⟨vb,rfl,p8,hwc⟩;replace aT:=aT.went hwc;have hlb:=HM.aX C H;have zA:=aY (@aw5 (Q b:Int) C H);have yB:=aY (λe h=>@aw6 (Q b:Int) C H e h);clear hwc;generalize bY (Q b:Int) C H=B at *;obtain⟨bs,lk,ek⟩:=B;simp only at p8 aT hlb zA yB;have uJ:=aT.x.lt;go_wp2_with fail
   refine (avm p8 aZ).mono ?_;rintro e wd⟨v9,rfl,V,k9⟩;replace aT:=aT.gr k9;clear p8;cases mU:tv bs with
   | none => have O:=avu mU;have HN:=aY (show AX b=110/\nM b=fo from Ra (by rw[BU.aX,zA.aX mU];rfl));rw[O.1];clear mU O V;exact Sg
   | some fl =>
    have O:=avv mU;rw[O.1];rw[O.2]at V;have HD:=BU.aX;rw[yB.aX _ mU]at HD;simp only at HD;replace HD:=aY HD;clear mU O zA yB BU;have HFl:=aY V.rel;obtain⟨Y,T,rfl⟩:=dK (yZ V);clear V;have q:=aT.x.cell;have z:=aT.x.frozen;go_upto_region 20 with fail;replace aT:DS w 128 gE (Z (D w)) g h lk ek #[G J (2:Int),G J N,G E t,G E y,G J cc,G E L,F Y (Q fl) T,F U 0 0] (aV wd ⟨h,6,U⟩ (F Y (Q fl) T)):=((aT).set 6 (F Y (Q fl) T));have HF:∀W',bV (h+1) U (aV wd ⟨h,6,U⟩ (F Y (Q fl) T)) W'->fQ fl (F Y (Q fl) T) W':=λW' u =>
     HFl.aX W' ((bV.tr (bV.set aZ 6 _) u).more aZ (λ_ _ _=>bq))
    have HE:∀W',bV (h+1) U (aV wd ⟨h,6,U⟩ (F Y (Q fl) T)) W'->bw dS [] (F U 0 0) W':=λ_ _=>gN dS _
    clear HFl q z;generalize wd.setCell _ _=wt at *;go_wp2;go_meet
    case rel=>exact⟨⟨2,N,t,y,cc,L,fl,[]⟩,lk,ek,_,_,aT,HF,HE,HD⟩
  have HD:=aY (HP.aX.2.2 je hk2);rw[HX.aX]at HD;clear HP;have HF:∀W',bV (h+1) U wa W'->fQ [] (F U 0 0) W':=λ_ _=>⟨U,0,rfl,Reads.nil _ _ _ _⟩
  have HE:∀W',bV (h+1) U wa W'->bw dS [] (F U 0 0) W':=λ_ _=>gN dS _
  have g1:((kk:Int)==1)=false:=cG;have g2:((kk:Int)==2)=false:=cG;go_wp2;go_meet
  case rel=>exact⟨⟨kk,N,t,y,cc,L,[],[]⟩,C,H,_,_,aT,HF,HE,HD⟩
 case rest =>
 clear aT q
 obtain⟨X,l,e,vf,ve,aT,HF,HE,HD⟩:=hcut
 obtain⟨A6,c6,rfl⟩:=dK (HF _ (bV.rf _ _ _))
 obtain⟨A7,c7,rfl⟩:=bD (HE _ (bV.rf _ _ _))
 have af:=bV.rf (h+1) U wc
 have DK:Hid ((∀W',bV (h+1) U wc W'->fQ X.f (F A6 (Q X.f) c6) W')/\∀W',bV (h+1) U wc W'->bw dS X.es (F A7 (Q X.es) c7) W'):=aY ⟨HF,HE⟩
 clear HF HE
 go_wp2_with fail
 refine (MK g _ _ _ aT.rd).mono ?_
 rintro e w'⟨rfl,rfl⟩
 have HB:Hid ((!e&&l.isEmpty&&dm X)=az->AX b=110/\nM b=fo):=aY λh=>Ra Sh
 have HG:Hid ((!e&&l.isEmpty&&dm X)=aA->AX b=0/\nM b=X):=aY λh=>W6 Sh
 clear HD
 cases hd:(!e&&l.isEmpty)
 ·have HN:=aY (HB.aX YB);exact Sg
 have q:=aT.x.cell
 go_wp2_with fail
 refine (Mz X _ _ ⟨_,_,rfl,DK.aX.1 _ af,DK.aX.2 _ af⟩).mono ?_
 rintro e wz⟨rfl,kz⟩
 replace aT:=aT.gr kz
 replace af:=af.tr (bV.bS kz _ _)
 cases hok:dm X
 ·have HN:=aY (HB.aX Kj);have hne:(tA X != 0)=true:=by rw[Hm hok];rfl
  clear q;exact Sg
 have HN:=aY (HG.aX Kj)
 have hne:(tA X != 0)=false:=by rw[MM hok];rfl
 clear q
 have q:=aT.rv.cell
 have z:=aT.rv.frozen
 have q2:=aT.x.cell
 go_wp2
 have P9:=aT.put [G J X.kind,G J X.br,G E X.life,G E X.dN,G J X.cl,G E X.sub,F A6 (Q X.f) c6,F A7 (Q X.es) c7] rfl
 simp only[dL,Nat.reduceAdd,ng]at P9
 clear q q2 z
 generalize ax _ _ _=W9 at *
 have e9:=P9.1.cell
 have U9:=af.tr P9.2.2
 refine aM (v:=au #[av (bQ X (F A6 (Q X.f) c6) (F A7 (Q X.es) c7)),G J 0]) aiW rfl ?_
 exact⟨_,Si,aiX,P9.2.1⟩
def wR(x:Rec):Int:=if fK x then 0 else 110
def Cz(x:Rec):List UInt8:=if fK x then dw x else []
theorem ago{x}(h:x.kind=2∨x.kind=3):dw x=bI (cL x.kind)++bI x.n++jA (fU x.e):=by grind [dw]
theorem aw9{x}(h:x.kind=4∨x.kind=5):dw x=bI (cL x.kind)++bI x.n++iy (x.br,x.life,x.dN):=by
 grind [dw,bI,cL,iy]
theorem azf{x}(h:x.kind=1):dw x=bI (cL x.kind)++bI x.n:=by grind [dw,bI,cL]
def owA(l:List UInt8)(v:aQ)(w:aP):Prop:=∃B,Own w B 5 v l
theorem aCq{l v w}(h:owA l v w):sl l v w:=gD h.choose_spec
def Pc(lo:Nat)(l:List UInt8)(v:aQ)(w:aP):Prop:=Own w lo 5 v l
theorem aCr lo l:∀v w w',Pc lo l v w->aN (Z (D w)) w w'->Pc lo l v w':=λ_ _ _ h k=>sG h k
theorem XH x v w(h:si x v w)(hfit:lH x) :
 aK prog 140 #[v] w λe w' =>
  ∃v',e=ak (au #[v',G J (wR x)])/\Own w' (Z (D w)) 5 v' (Cz x)/\K w w':=by
 have z:=aY λW h=>agl x v W h
 have h':=h
 obtain⟨vf,ve,rfl,hf,he⟩:=h
 have H:=bn.new w 171 (gP x vf ve)
 have k1:=H.cC
 have T:=aY (aCo h')
 obtain⟨hik,O,M,hib,hil,E7⟩:=hfit
 cases hok:fK x
 ·have HE:Hid (wR x=110):=aY YC;have HR:Hid (Cz x=[]):=aY YD;rw[hok]at z;go_in;go_wp2_with fail
  generalize w.alloc _=w1 at *;refine (z.aX _ (T.aX _ k1)).mono ?_;rintro e w2⟨rfl,t⟩;go_wp2;go_ret2;exact⟨_,jD,Yy,k1.tr t⟩
 have HE:Hid (wR x=0):=aY YC
 have HR:Hid (Cz x=dw x):=aY YD
 have hkk:=Eh hok
 rw[hok]at z
 have H1:=aY λh=>azf (x:=x) h
 have H2:=aY λh=>ago (x:=x) h
 have H4:=aY λh=>aw9 (x:=x) h
 obtain⟨k,n,x,b,l,s⟩:=x
 simp only at H k1 hf he hik O M hib hil E7 hkk HE HR z T H1 H2 H4⊢
 generalize Cz ⟨k,n,x,b,l,s⟩=R at *
 generalize dw ⟨k,n,x,b,l,s⟩=ai at *
 generalize wR ⟨k,n,x,b,l,s⟩=C at *
 have Gw:∀W,K w W->fc x (av (bQ x vf ve)) W:=λW k=>⟨vf,ve,rfl,fJ _ _ _ _ hf k,cH he k⟩
 have hk5:k=1∨(k=2∨k=3)∨k=4∨k=5:=aZ
 have DN:k=2∨k=3->dm x=true:=by
  grind
 go_in
 go_wp2_with fail
 generalize w.alloc _=w1 at *
 have hz1:=k1.size
 obtain⟨lo,A⟩:∃lo,Hid (lo=Z (D w)):=⟨_,aY rfl⟩
 rw[<- A.aX]at hz1
 have HG:Hid (∀W,K w W->lo<=Z (D W)):=aY λW k=>by rw[A.aX];exact k.size
 generalize Z (D w)=g at H⊢
 have qx:=H.cells
 refine (z.aX _ (T.aX _ k1)).mono ?_
 rintro e w2⟨rfl,t⟩
 go_upto_region 3 with fail
 have qx2:=λW (kW:K w2 W)=>qx W (t.tr kW)
 have hz2:=cI hz1 t.size
 have:=eM (cL k) (jb k)
 have p1:=eM n O
 have qs:=aB qx2 (FI k)
 refine eQ 7 ?_
 iterate 3 refine bA.i ?_
 refine bA.c (sl (bI (cL k))) (pQ _) (λW _=>(xK (cL k) (aau W) (jb k) bq).mono λe w'' ⟨v',N,ho,hb⟩=>⟨v',N,gD (bU (bI _)▸ho),hb⟩) ?_
 iterate 2 refine bA.i ?_
 refine bA.op (Pc lo (bI (cL k)++bI n)) (aCr _ _) (λV W kW hp=>?_) ?_
 ·simp only[dE,bU,bZ,dA,dB,bM]at hp;simp[dC,bP,aC,hp,eH,aL,bR,go_sem];exact (xK n hp.1 O aZ).mono λe w'' ⟨v',N,ho,hb⟩=>⟨v',N,oy (cI hz2 kW.size) ho,hb⟩
 intro V w3 k3 hA
 simp only[bU,bZ,dx,bM,Nat.reduceAdd]at hA
 refine bJ.p (bJ.h ?_)
 have h7:=hA.2.2.2.2.2.2.1
 generalize V 6=v3 at *
 have h7o:=aY h7
 replace h7:=gD h7
 have:Q (bI (cL k)++bI n)<=100:=cG
 have j:=k1.tr (t.tr k3)
 replace t:=t.tr k3
 generalize bI (cL k)++bI n=b3 at *
 obtain je|S|anU:=hk5
 ·subst je;have L:=h7o.aX;rw[<- H1.aX rfl,<- HR.aX]at L;have L:=aY L;go_wp2;go_ret2;exact⟨_,jD,by rw[<- A.aX];exact L.aX,j⟩
 ·have aa0:=DN S;have X:=aY (HR.aX.trans (H2.aX S));have:=MM aa0;have jC:rM x=fU x:=by simp[rM,aa0]
  have:=MW aa0 M;go_upto_region 5 with fail;rcases S with rfl|rfl;all_goals
   go_wp2_with fail
   refine (Wu x _ _ (Gw _ j) M).mono ?_
   rintro e w4⟨v4,rfl,y,B⟩
   rw[jC]at y
   have h4:=gD y
   have h74:=pQ _ _ _ _ h7 B
   replace j:=j.tr B
   go_wp2_with fail
   refine (RC h74 h4 aZ aZ).mono ?_
   rintro e w5⟨v5,rfl,sZ,k5⟩
   have Y:=j
   rw[<- X.aX]at sZ
   have h5:=aY (show Pc lo R v5 w5 from oy (HG.aX _ Y) sZ)
   replace j:=j.tr k5
   go_wp2
   go_ret2
   exact⟨_,jD,by rw[<- A.aX];exact h5.aX,j⟩
 ·have X:=aY (HR.aX.trans (H4.aX anU));go_upto_region 5 with fail;rcases anU with rfl|rfl;all_goals
   go_wp2_with fail
   refine (aev _ _ (b,l,s) _ h7 aZ ⟨hib,hil,E7⟩).mono ?_
   rintro e w4⟨v4,rfl,y,B⟩
   have Y:=j
   rw[<- X.aX]at y
   have h4:=aY (show Pc lo R v4 w4 from oy (HG.aX _ Y) y)
   replace j:=j.tr B
   go_wp2
   go_ret2
   exact⟨_,jD,by rw[<- A.aX];exact h4.aX,j⟩
theorem azg x v w(h:si x v w)(hfit:lH x) :
 aK prog 140 #[v] w λe w' =>
  ∃v',e=ak (au #[v',G J (wR x)])/\owA (Cz x) v' w'/\K w w' :=
 (XH x v w h hfit).mono λe w' ⟨v',j,h,k⟩=>⟨v',j,⟨_,h⟩,k⟩
theorem avw x v w(h:si x v w)(hfit:lH x) :
 aK prog 140 #[v] w λe w' =>
  ∃v',e=ak (au #[v',G J (wR x)])/\sl (Cz x) v' w'/\K w w':=by
 refine (azg x v w h hfit).mono ?_
 rintro e w'⟨v',rfl,h,k⟩
 grind [aCq]
abbrev tL:Array aQ:=#[G J 0,G E 0,G J 0,G J 0,G E 0,G E 0,G J 0,G E 0,F U 0 0,F U 0 0,G J 0,G E 0,G E 0]
abbrev zRL:List aQ:=[G J 0,G E 0,G J 0,G J 0,G E 0,G E 0,G J 0,G E 0,F U 0 0,F U 0 0,G J 0,G E 0,G E 0]
theorem azh w:si KS (av tL) w:=⟨_,_,rfl,⟨U,0,rfl,Reads.nil _ _ _ _⟩,gN _ _⟩
theorem ae2{b}(h:pg b=U):wP b=110/\wO b=KS:=by simp[wP,wO,h]
theorem WM{b x}(h:pg b=I x):wP b=0/\wO b=x:=by simp[wP,wO,h]
theorem ate b k n S A N B(R:bE b az=(k,S,N))(O:bE S N=(n,A,B)) j(hk:min k 6=j) :
 ((j=2∨j=3)->∀bs M C,bY (Q b) A B=(bs,M,C)->(jP bs=U->pg b=U)/\∀e,jP bs=I e->pg b=if !C&&M.isEmpty&&fK ⟨j,n,e,0,0,0⟩then I ⟨j,n,e,0,0,0⟩else U) /\
 ((j=4∨j=5)->∀br y z L H,ER A B=((br,y,z),L,H)->pg b=if !H&&L.isEmpty&&fK ⟨j,n,fo,br,y,z⟩then I ⟨j,n,fo,br,y,z⟩else U) /\
 (¬(j=2∨j=3)->¬(j=4∨j=5)->pg b=if !B&&A.isEmpty&&fK ⟨j,n,fo,0,0,0⟩then I ⟨j,n,fo,0,0,0⟩else U):=by
 subst hk
 refine⟨λh bs M C W=>⟨λhn=>?_,λe V=>?_⟩,λh br y z L H t=>?_,λh T=>?_⟩
 ·grind [bE,bY,jP,pg,fK,ER,fo,pk]
 ·grind [pg,pk]
 ·have hn:¬(min k 6=2∨min k 6=3):=aZ;simp only[ER,Prod.mk.injEq]at t;obtain⟨⟨rfl,rfl,rfl⟩,t⟩:=t;unfold pg pk;simp only[R,O,hn,if_false,h,if_true,t]
 ·unfold pg pk;simp only[R,O,h,T,if_false]
theorem atf b v w(h:sl b v w)(hn:Q b<=1000000000) :
 aK prog 91 #[v] w λe w' =>
  ∃v',e=ak (au #[v',G J (wP b)])/\(∀W,bV (Z (D w)) U w' W->si (wO b) v' W)/\K w w':=by
 obtain⟨A,c,rfl,hR⟩:=h
 have fH:=bn.new w 171 tL
 have k0:=fH.cC
 have DI:=(hR.below k0 (bL _)).more k0.size
 obtain⟨k,l1,e1,sk⟩:∃k l1 e1,bE b az=(k,l1,e1):=⟨_,_,_,rfl⟩
 obtain⟨n,y,C,uH⟩:∃k y C,bE l1 e1=(k,y,C):=⟨_,_,_,rfl⟩
 have:min k 6<=6:=aZ
 have C1:=λg W h=>MF g b az 6 W h aZ
 have C2:=λg W h=>vC g l1 e1 W h
 have H:=ate b k n l1 y e1 C sk uH
 have:Q y<=Q b:=by have g1:=pL b az;have g2:=pL l1 e1;rw[sk]at g1;rw[uH]at g2;simp only at g1 g2;omega
 simp only[sk,uH]at C1 C2
 clear sk uH
 generalize hkk:min k 6=O at *
 replace H:=aY (H O rfl)
 replace C1:=aY C1
 replace C2:=aY C2
 clear hkk
 go_in
 go_wp2_with fail
 generalize w.alloc _=w1 at *
 refine (MV A _ c b w1 _ DI (bL _) hn).mono ?_
 rintro e w2⟨g,rfl,hg,nE,k2⟩
 have cZ:=fH.bF k2
 have hrg:=cQ fH.lt hg
 replace k0:=k0.tr k2
 clear hR DI hg k2 fH
 go_wp2_with fail
 refine (C1.aX g w2 nE).mono ?_
 rintro e w3⟨rfl,hw3⟩
 have fP:=cZ.went hw3 aZ
 have k3:K w w3:=k0.trans (mN hw3.2 aZ k0.size)
 have zu:=hw3.1
 have Ot:=zu.lt
 clear nE cZ hw3 k0
 go_wp2_with fail
 have aT:DS w 171 tL (Z (D w)) g (Z (D w3)) l1 e1 #[G J O,G E 0,G J 0,G J 0,G E 0,G E 0,G J 0,G E 0,F U 0 0,F U 0 0,G J 0,G E 0,G E 0] (aU w3 (aq #[G J O,G E 0,G J 0,G J 0,G E 0,G E 0,G J 0,G E 0,F U 0 0,F U 0 0,G J 0,G E 0,G E 0] 171)) :=
  ⟨zu.al _,bn.new _ _ _,fP.alloc _,k3.al _,bL _,hrg,Ot⟩
 clear zu fP k3 Ot hrg
 generalize w3.alloc _=w4 at *
 generalize Z (D w3)=h at *
 refine (C2.aX g w4 aT.rd).mono ?_
 rintro e w5⟨rfl,O8⟩
 replace aT:=aT.went O8
 clear O8
 have q:=aT.x.cell
 have z:=aT.x.frozen
 go_upto_region 4 with fail
 replace aT:DS w 171 tL (Z (D w)) g h y C #[G J O,G E n,G J 0,G J 0,G E 0,G E 0,G J 0,G E 0,F U 0 0,F U 0 0,G J 0,G E 0,G E 0] _:=aT.sets 1 [G E n]
 simp only[dL,Nat.reduceAdd]at aT
 clear q z C1 C2
 generalize w5.setCell _ _=Y at *
 have Uo:=aT.o
 have Ou:((Q b:Nat):Int)<=9223372036854775807:=aZ
 have q:=aT.x.cell
 go_upto_block 0 with fail
 go_cut [6,7]from 18 to 39 (fun _ _ W=>∃(X:Rec) (l:List UInt8) (e:Bool) (vf ve:aQ),DS w 171 tL (Z (D w)) g h l e (gP X vf ve) W /\
  (∀W',bV (h+1) U W W'->fQ X.e.f vf W')/\(∀W',bV (h+1) U W W'->bw dS X.e.es ve W')/\Hid (pg b=if !e&&l.isEmpty&&fK X then I X else U))
 case first =>
  by_cases hk2:O=2
  ·subst hk2;replace aT:DS w 171 tL (Z (D w)) g h y C #[G J 2,G E n,G J 0,G J 0,G E 0,G E 0,G J 0,G E 0,F U 0 0,F U 0 0,G J 0,G E 0,G E 0] Y:=aT;replace H:=aY (H.aX.1 bC);simp only[show ((2:Nat):Int)=2 from rfl]at H;go_wp2_with fail
   clear q;refine (MY g y C (Q b:Int) Y aT.rd aZ aZ Ou).mono ?_;rintro e wc⟨vb,rfl,p8,R⟩;replace aT:=aT.went R;have hlb:=J9 (Q b:Int) y C;obtain⟨bs,V,S,hB⟩:∃bs V S,bY (Q b:Int) y C=(bs,V,S):=⟨_,_,_,rfl⟩;have HQ:=aY (H.aX bs V S hB);rw[hB]at p8 aT hlb;simp only at p8 aT hlb;clear R hB H;have uJ:=aT.x.lt;go_wp2_with fail
   refine (Wv bs _ _ p8 aZ).mono ?_;rintro e wd⟨v9,rfl,hen,k9⟩;replace aT:=aT.gr k9;clear p8;obtain⟨vf,ve,rfl,I1,DP⟩:=hen _ (bV.rf _ _ _);obtain⟨j,c6,rfl⟩:=dK I1;obtain⟨t,c7,rfl⟩:=bD DP;clear I1 DP;have mV:=aY hen;clear hen;have hx:=bn.new wd 128 (bQ (nM bs) (F j (Q (nM bs).f) c6) (F t (Q (nM bs).es) c7));have kE:=hx.cC;have DE:=aT.gr kE;cases mU:jP bs with
   | none => exact aiY
   | some en =>
    have jg:=W6 mU;rw[jg.2]at hx kE DE mV;rw[jg.1,jg.2];have HD:=aY (HQ.aX.2 en mU);clear mU jg HQ aT;go_upto_region 10 with fail;generalize wd.alloc _=we at *;have aT:=DE;clear DE;have q2:=hx.cell;have q:=aT.x.cell;have z:=aT.x.frozen;go_wp2;replace aT:DS w 171 tL (Z (D w)) g h V S #[G J 2,G E n,G J en.kind,G J en.br,G E en.life,G E en.dN,G J en.cl,G E en.sub,F j (Q en.f) c6,F t (Q en.es) c7,G J 0,G E 0,G E 0] _:=aT.sets 2 [G J en.kind,G J en.br,G E en.life,G E en.dN,G J en.cl,G E en.sub,F j (Q en.f) c6,F t (Q en.es) c7];simp only[dL,Nat.reduceAdd]at aT;have UX:=(bV.bS kE (h+1) U).tr (bV.sets (Nat.lt_succ_self h) [G J en.kind,G J en.br,G E en.life,G E en.dN,G J en.cl,G E en.sub,F j (Q en.f) c6,F t (Q en.es) c7] 2 _);simp only[dL,Nat.reduceAdd]at UX;have aa1:Hid (∀W',bV (h+1) U wd W'->fc en (av (bQ en (F j (Q en.f) c6) (F t (Q en.es) c7))) W'):=aY λW' u=>mV.aX W' (u.more aZ (λ_ _ _=>bq))
    clear q q2 z mV hx;generalize ax _ _ _=T at *;have M:∀W',bV (h+1) U T W'->fQ en.f (F j (Q en.f) c6) W':=λW' u=>by exact aiZ
    have N:∀W',bV (h+1) U T W'->bw dS en.es (F t (Q en.es) c7) W':=λW' u=>by exact ai0
    go_wp2;go_meet
    case rel=>exact⟨(⟨2,n,en,0,0,0⟩:Rec),V,S,F j (Q en.f) c6,F t (Q en.es) c7,aT,M,N,HD⟩
  by_cases lN:O=3
  ·subst lN;replace aT:DS w 171 tL (Z (D w)) g h y C #[G J 3,G E n,G J 0,G J 0,G E 0,G E 0,G J 0,G E 0,F U 0 0,F U 0 0,G J 0,G E 0,G E 0] Y:=aT;replace H:=aY (H.aX.1 bC);simp only[show ((3:Nat):Int)=3 from rfl]at H;go_wp2_with fail
   clear q;refine (MY g y C (Q b:Int) Y aT.rd aZ aZ Ou).mono ?_;rintro e wc⟨vb,rfl,p8,R⟩;replace aT:=aT.went R;have hlb:=J9 (Q b:Int) y C;obtain⟨bs,V,S,hB⟩:∃bs V S,bY (Q b:Int) y C=(bs,V,S):=⟨_,_,_,rfl⟩;have HQ:=aY (H.aX bs V S hB);rw[hB]at p8 aT hlb;simp only at p8 aT hlb;clear R hB H;have uJ:=aT.x.lt;go_wp2_with fail
   refine (Wv bs _ _ p8 aZ).mono ?_;rintro e wd⟨v9,rfl,hen,k9⟩;replace aT:=aT.gr k9;clear p8;obtain⟨vf,ve,rfl,I1,DP⟩:=hen _ (bV.rf _ _ _);obtain⟨j,c6,rfl⟩:=dK I1;obtain⟨t,c7,rfl⟩:=bD DP;clear I1 DP;have mV:=aY hen;clear hen;have hx:=bn.new wd 128 (bQ (nM bs) (F j (Q (nM bs).f) c6) (F t (Q (nM bs).es) c7));have kE:=hx.cC;have DE:=aT.gr kE;cases mU:jP bs with
   | none => exact aiY
   | some en =>
    have jg:=W6 mU;rw[jg.2]at hx kE DE mV;rw[jg.1,jg.2];have HD:=aY (HQ.aX.2 en mU);clear mU jg HQ aT;go_upto_region 10 with fail;generalize wd.alloc _=we at *;have aT:=DE;clear DE;have q2:=hx.cell;have q:=aT.x.cell;have z:=aT.x.frozen;go_wp2;replace aT:DS w 171 tL (Z (D w)) g h V S #[G J 3,G E n,G J en.kind,G J en.br,G E en.life,G E en.dN,G J en.cl,G E en.sub,F j (Q en.f) c6,F t (Q en.es) c7,G J 0,G E 0,G E 0] _:=aT.sets 2 [G J en.kind,G J en.br,G E en.life,G E en.dN,G J en.cl,G E en.sub,F j (Q en.f) c6,F t (Q en.es) c7];simp only[dL,Nat.reduceAdd]at aT;have UX:=(bV.bS kE (h+1) U).tr (bV.sets (Nat.lt_succ_self h) [G J en.kind,G J en.br,G E en.life,G E en.dN,G J en.cl,G E en.sub,F j (Q en.f) c6,F t (Q en.es) c7] 2 _);simp only[dL,Nat.reduceAdd]at UX;have aa1:Hid (∀W',bV (h+1) U wd W'->fc en (av (bQ en (F j (Q en.f) c6) (F t (Q en.es) c7))) W'):=aY λW' u=>mV.aX W' (u.more aZ (λ_ _ _=>bq))
    clear q q2 z mV hx;generalize ax _ _ _=T at *;have M:∀W',bV (h+1) U T W'->fQ en.f (F j (Q en.f) c6) W':=λW' u=>by exact aiZ
    have N:∀W',bV (h+1) U T W'->bw dS en.es (F t (Q en.es) c7) W':=λW' u=>by exact ai0
    go_wp2;go_meet
    case rel=>exact⟨(⟨3,n,en,0,0,0⟩:Rec),V,S,F j (Q en.f) c6,F t (Q en.es) c7,aT,M,N,HD⟩
  obtain⟨⟨br,B,L⟩,l5,e5,hI⟩:∃(i:cB) (l5:List UInt8) (e5:Bool),ER y C=(i,l5,e5):=⟨_,_,_,rfl⟩;have C5:=λW h=>aeK g y C W h
  have I6:=aY λh=>H.aX.2.1 h br B L l5 e5 hI
  rw[hI]at C5;simp only at C5;replace C5:=aY C5;clear hI;by_cases hk4:O=4
  ·subst hk4;replace aT:DS w 171 tL (Z (D w)) g h y C #[G J 4,G E n,G J 0,G J 0,G E 0,G E 0,G J 0,G E 0,F U 0 0,F U 0 0,G J 0,G E 0,G E 0] Y:=aT;have HD:=aY (I6.aX bC);simp only[show ((4:Nat):Int)=4 from rfl]at HD;go_wp2_with fail
   clear q;refine (C5.aX Y aT.rd).mono ?_;rintro e wc⟨rfl,R⟩;replace aT:=aT.went R;clear R H I6 C5;have q:=aT.x.cell;have z:=aT.x.frozen;go_wp2;replace aT:DS w 171 tL (Z (D w)) g h l5 e5 #[G J 4,G E n,G J 0,G J 0,G E 0,G E 0,G J 0,G E 0,F U 0 0,F U 0 0,G J br,G E B,G E L] _:=aT.sets 10 [G J br,G E B,G E L];simp only[dL,Nat.reduceAdd]at aT;clear q z;generalize ax _ _ _=T at *;have M:∀W',bV (h+1) U T W'->fQ fo.f (F U 0 0) W':=λ_ _=>⟨U,0,rfl,Reads.nil _ _ _ _⟩
   have N:∀W',bV (h+1) U T W'->bw dS fo.es (F U 0 0) W':=λ_ _=>gN dS _
   go_wp2;go_meet
   case rel=>exact⟨(⟨4,n,fo,br,B,L⟩:Rec),l5,e5,F U 0 0,F U 0 0,aT,M,N,HD⟩
  by_cases hk5:O=5
  ·subst hk5;replace aT:DS w 171 tL (Z (D w)) g h y C #[G J 5,G E n,G J 0,G J 0,G E 0,G E 0,G J 0,G E 0,F U 0 0,F U 0 0,G J 0,G E 0,G E 0] Y:=aT;have HD:=aY (I6.aX bC);simp only[show ((5:Nat):Int)=5 from rfl]at HD;go_wp2_with fail
   clear q;refine (C5.aX Y aT.rd).mono ?_;rintro e wc⟨rfl,R⟩;replace aT:=aT.went R;clear R H I6 C5;have q:=aT.x.cell;have z:=aT.x.frozen;go_wp2;replace aT:DS w 171 tL (Z (D w)) g h l5 e5 #[G J 5,G E n,G J 0,G J 0,G E 0,G E 0,G J 0,G E 0,F U 0 0,F U 0 0,G J br,G E B,G E L] _:=aT.sets 10 [G J br,G E B,G E L];simp only[dL,Nat.reduceAdd]at aT;clear q z;generalize ax _ _ _=T at *;have M:∀W',bV (h+1) U T W'->fQ fo.f (F U 0 0) W':=λ_ _=>⟨U,0,rfl,Reads.nil _ _ _ _⟩
   have N:∀W',bV (h+1) U T W'->bw dS fo.es (F U 0 0) W':=λ_ _=>gN dS _
   go_wp2;go_meet
   case rel=>exact⟨(⟨5,n,fo,br,B,L⟩:Rec),l5,e5,F U 0 0,F U 0 0,aT,M,N,HD⟩
  have HD:=aY (H.aX.2.2 aZ aZ);clear H I6 C5;have M:∀W',bV (h+1) U Y W'->fQ fo.f (F U 0 0) W':=λ_ _=>⟨U,0,rfl,Reads.nil _ _ _ _⟩
  have N:∀W',bV (h+1) U Y W'->bw dS fo.es (F U 0 0) W':=λ_ _=>gN dS _
  have g2:((O:Int)==2)=false:=cG;have:((O:Int)==3)=false:=cG;have:((O:Int)==4)=false:=cG;have:((O:Int)==5)=false:=cG;go_wp2;go_wp2;go_meet
  case rel=>exact⟨(⟨O,n,fo,0,0,0⟩:Rec),y,C,F U 0 0,F U 0 0,aT,M,N,HD⟩
 case rest =>
 clear aT q
 obtain⟨⟨k',n',en,br,B,L⟩,l,e,vf,ve,aT,M,N,HD⟩:=hcut
 obtain⟨j,c6,rfl⟩:=dK (M _ (bV.rf _ _ _))
 obtain⟨t,c7,rfl⟩:=bD (N _ (bV.rf _ _ _))
 have Uo:=aT.o
 simp only at aT M N
 have af:=bV.rf (h+1) U wc
 have DK:Hid ((∀W',bV (h+1) U wc W'->fQ (Rec.e (⟨k',n',en,br,B,L⟩:Rec)).f (F j (Q en.f) c6) W')/\∀W',bV (h+1) U wc W'->bw dS (Rec.e (⟨k',n',en,br,B,L⟩:Rec)).es (F t (Q en.es) c7) W'):=aY ⟨M,N⟩
 clear M N
 go_wp2_with fail
 refine (MK g _ _ _ aT.rd).mono ?_
 rintro e w'⟨rfl,rfl⟩
 have HB:Hid ((!e&&l.isEmpty&&fK (⟨k',n',en,br,B,L⟩:Rec))=az->wP b=110/\wO b=KS):=aY λh=>ae2 Sh
 have HG:Hid ((!e&&l.isEmpty&&fK (⟨k',n',en,br,B,L⟩:Rec))=aA->wP b=0/\wO b=(⟨k',n',en,br,B,L⟩:Rec)):=aY λh=>WM Sh
 clear HD
 cases hd:(!e&&l.isEmpty)
 ·have HN:=aY (HB.aX YB);have q:=aT.rv.cell;have z:=aT.rv.frozen;exact YE
 have q:=aT.x.cell
 go_wp2_with fail
 refine (agl (⟨k',n',en,br,B,L⟩:Rec) _ _ ⟨_,_,rfl,DK.aX.1 _ af,DK.aX.2 _ af⟩).mono ?_
 rintro e wz⟨rfl,kz⟩
 replace aT:=aT.gr kz
 replace af:=af.tr (bV.bS kz _ _)
 cases hok:fK (⟨k',n',en,br,B,L⟩:Rec)
 ·have HN:=aY (HB.aX Kj);clear q;have q:=aT.rv.cell;have z:=aT.rv.frozen;exact YE
 have HN:=aY (HG.aX Kj)
 clear q
 have q:=aT.rv.cell
 have z:=aT.rv.frozen
 have q2:=aT.x.cell
 go_wp2
 have P9:=aT.put [G J k',G E n',G J en.kind,G J en.br,G E en.life,G E en.dN,G J en.cl,G E en.sub,F j (Q en.f) c6,F t (Q en.es) c7,G J br,G E B,G E L] rfl
 simp only[dL,Nat.reduceAdd,ng]at P9
 clear q q2 z
 generalize ax _ _ _=W9 at *
 have e9:=P9.1.cell
 have U9:=af.tr P9.2.2
 refine aM (v:=au #[av #[G J k',G E n',G J en.kind,G J en.br,G E en.life,G E en.dN,G J en.cl,G E en.sub,F j (Q en.f) c6,F t (Q en.es) c7,G J br,G E B,G E L],G J 0]) ai1 rfl ?_
 exact⟨_,Si,aiX,P9.2.1⟩
def fX(x:bW):Prop:=Q x.f<=1000000/\Q x.es<=1000000/\∀e∈x.es,Q e<=1000000
structure fe where
 life:Nat
 list:List bW
 prom:List bW
 ab:List cB
def eP:fe:=⟨0,[],[],[]⟩
def bB(x:bW):cB:=(x.br,x.life,x.dN)
def jW(x:Rec):cB:=(x.br,x.life,x.dN)
def dI(l:List bW)(a:cB):Bool:=l.any λx=>decide (bB x=a)
def fD(l:List cB)(a:cB):Bool:=l.any λx=>decide (x=a)
def kK(l:List bW)(a:cB):List bW:=l.filter λx=>!decide (bB x=a)
def BV(s:fe)(r:Rec):Option fe:=if r.n<=s.life then U else I ⟨r.n,s.list,s.prom,s.ab⟩
def zB(s:fe)(r:Rec):Option fe:=if ¬r.n=Q s.list then U else if dI s.list (bB r.e)then U else if fD s.ab (bB r.e)then U else I ⟨s.life,s.list++[r.e],kK s.prom (bB r.e),s.ab⟩
def zC(s:fe)(r:Rec):Option fe:=if dI s.list (bB r.e)then U else if dI s.prom (bB r.e)then U else if fD s.ab (bB r.e)then U else I ⟨s.life,s.list,s.prom++[r.e],s.ab⟩
def zD(s:fe)(r:Rec):Option fe:=if dI s.list (jW r)then U else if fD s.ab (jW r)then U else I ⟨s.life,s.list,kK s.prom (jW r),s.ab++[jW r]⟩
def BW(s:fe)(r:Rec):Option fe:=if dI s.prom (jW r)then I ⟨s.life,s.list,kK s.prom (jW r),s.ab⟩else U
def fR(s:fe)(r:Rec):Option fe:=if r.kind=1 then BV s r else if r.kind=2 then zB s r else if r.kind=3 then zC s r else if r.kind=4 then zD s r else BW s r
def oD(s:fe)(r:Rec):fe×Int:=if fK r then (match fR s r with|none=>(s,160)|some t=>(t,0))else (s,110)
structure fT where
 e:bW
 asked:Bool
 deriving DecidableEq
def mR(x:bW):cB:=(x.br,x.life,x.dN)
def anq(x:bW):List UInt8:=if dm x then fU x else []
def ur(x:bW):Bool:=decide (3000<Q (anq x))
def pV(a:cB)(t:fT):Bool:=decide (mR t.e=a)
def lI(l:List fT)(a:cB):Option Nat:=l.findIdx? (pV a)
def uh(l:List fT)(a:cB):Int:=match lI l a with|some k=>(k:Int)|none=>-1
def ui(l:List fT)(a:cB):Option Nat:=match lI l a with|some k=>if (l[k]?.map fT.asked)=I aA then U else I k|none=>U
def Dh(l:List fT)(a:cB):Int:=match ui l a with|some k=>(k:Int)|none=>-1
def x8(l:List fT)(t:fT):List fT×Int :=
 if (lI l (mR t.e)).isSome then (l,170)else if dm t.e=az then (l,110)else if 8<=Q l then (l,171)else if ur t.e then (l,172)else (l++[t],0)
def x9(a:cB)(c:Int):bW:=⟨1,a.1,a.2.1,a.2.2,c,0,[],[]⟩
def AY(l:List fT)(a:cB)(c:Int):List fT×Int:=x8 l ⟨x9 a c,az⟩
def oF(x:bW)(e:List dW):bW:={ x with es:=x.es++[e] }
def jq(l:List fT)(a:cB)(e:List dW):List fT×Int :=
 match ui l a with
 | none=>(l,170)
 | some k=>match l[k]? with
  | none=>(l,170)
  | some t=>if iC e=az then (l,40)else if 8<=Q t.e.es then (l,171)else if ur (oF t.e e)then (l,172)else (l.set k ⟨oF t.e e,t.asked⟩,0)
def jN(l:List fT)(a:cB):List fT×Int :=
 match ui l a with
 | none=>(l,170)
 | some k=>match l[k]? with
  | none=>(l,170)
  | some t=>(l.set k ⟨t.e,aA⟩,0)
def iq(l:List fT)(a:cB):List fT:=match lI l a with|none=>l|some k=>l.eraseIdx k
def jO(l:List fT)(a:cB):List fT×Int:=if (ui l a).isSome then (iq l a,0)else (l,170)
def rV(l:List fT)(x:bW):List fT×Int:=x8 l ⟨x,aA⟩
def kY(l:List fT):List bW:=((l.filter fT.asked).map fT.e).take 4
def ya:fT:=⟨fo,az⟩
def vG(l:List fT)(a:cB):fT×Bool:=match l.find? (pV a)with|some t=>(t,aA)|none=>(ya,az)
structure aC9 where
 kind:Int
 id:cB
 cl:Int
 e:List dW
 x:bW
def anr(l:List fT)(c:aC9):List fT×Int :=
 if c.kind=1 then AY l c.id c.cl else if c.kind=2 then jq l c.id c.e else if c.kind=3 then jN l c.id else if c.kind=4 then jO l c.id
 else if c.kind=5 then rV l c.x else if c.kind=6 then (iq l c.id,0)else (l,0)
structure lG(l:List fT):Prop where
 len:Q l<=8
 each:∀t∈l,dm t.e=aA/\dQ t.e/\ur t.e=az
 I7:∀(i j:Nat) (s t:fT),l[i]?=I s->l[j]?=I t->mR s.e=mR t.e->i=j
theorem MN{l a k}(h:lI l a=I k):∃t,l[k]?=I t/\mR t.e=a/\∀j,j<k->∀s,l[j]?=I s->mR s.e≠a:=by
 grind [lI,List.findIdx?_eq_some_iff_getElem,aE,pV]
theorem afE{l a}(h:lI l a=U):∀t∈l,mR t.e≠a:=by
 grind [lI,mR,pV]
theorem aJa{l a}(y:lG l){k:Nat}{t}(hk:l[k]?=I t)(B:mR t.e=a):vG l a=(t,aA):=by
 unfold vG
 cases hf:l.find? (pV a)with
 | none =>
  grind [mR,vG,pV]
 | some s =>
  have z:mR s.e=a:=by grind [pV]
  obtain⟨j,A⟩:=List.mem_iff_getElem?.1 (List.mem_of_find?_eq_some hf)
  have:=y.I7 j k s t A hk (z.trans B.symm)
  grind
theorem avx{l a}(h:∀t∈l,mR t.e≠a):vG l a=(ya,az):=by
 grind [mR,vG,ya,pV]
theorem Rb{l a k}(h:ui l a=I k):∃t,l[k]?=I t/\mR t.e=a/\t.asked=az/\lI l a=I k:=by
 grind [ui,MN]
theorem lG.nil:lG []:=⟨bq,bq,bq⟩
theorem lG.set{l}(A:lG l){k t u}(hk:l[k]?=I t)(O:mR u.e=mR t.e)(C:dm u.e=aA/\dQ u.e/\ur u.e=az):lG (l.set k u):=by
 have:=(aF.1 hk).1;refine⟨by simpa using A.len,λs y=>?_,λi j s r y B S=>?_⟩
 ·rcases List.mem_or_eq_of_mem_set y with y|rfl
  ·exact A.each s y
  ·exact C
 ·have key:∀(i:Nat) (s:fT),(l.set k u)[i]?=I s->∃z,l[i]?=I z/\mR z.e=mR s.e:=by
   grind
  obtain⟨z,H,N⟩:=key i s y;obtain⟨M,L,T⟩:=key j r B;exact A.I7 i j z M H L bG
theorem lG.snoc{l}(z:lG l){t}(h8:Q l<8)(hn:∀s∈l,mR s.e≠mR t.e)(L:dm t.e=aA/\dQ t.e/\ur t.e=az):lG (l++[t]):=by
 refine⟨bG,λs y=>?_,λi j s r y B H=>?_⟩
 ·rcases List.mem_append.1 y with y|y
  ·exact z.each s y
  ·grind
 ·have key:∀(i:Nat) (s:fT),(l++[t])[i]?=I s->(i<Q l/\l[i]?=I s)∨(i=Q l/\s=t):=by
   grind
  rcases key i s y with ⟨M,C⟩|⟨rfl,rfl⟩
  ·rcases key j r B with ⟨N,A⟩|⟨rfl,rfl⟩
   ·exact z.I7 i j s r C A H
   grind
  grind
theorem lG.erase{l}(z:lG l) k:lG (l.eraseIdx k):=by
 refine⟨cI (List.length_eraseIdx_le l k) z.len,λs t=>z.each s (List.mem_of_mem_eraseIdx t),λi j s r t y A=>?_⟩;rw[List.getElem?_eraseIdx]at t y;split at t <;> split at y
 ·exact z.I7 i j s r t y A
 ·have:=z.I7 i (j+1) s r t y A;omega
 ·have:=z.I7 (i+1) j s r t y A;omega
 ·have:=z.I7 (i+1) (j+1) s r t y A;omega
theorem Sj{l}(j:lG l) t(y:dQ t.e):lG (x8 l t).1:=by
 unfold x8;split
 ·exact j
 ·rename_i A;split
  ·exact j
  ·rename_i z;split
   ·exact j
   ·split
    ·exact j
    ·rename_i h8 hb;have hn:lI l (mR t.e)=none:=Kf;exact j.snoc aZ (afE hn) ⟨bG,y,bG⟩
theorem axa{x e}(h:dm x=aA)(hk:x.kind=1)(h8:Q x.es<8)(j:iC e=aA):dm (oF x e)=true:=by
 grind [dm,iC,oF]
theorem XI{l}(hl:lG l) c(hi:cV c.id.1/\c.id.2.1<18446744073709551616/\c.id.2.2<18446744073709551616)(hc:cV c.cl)(Y:∀a∈c.e,ny a)(O:dQ c.x)
 (C:∀t∈l,t.asked=az->t.e.kind=1):lG (anr l c).1:=by
 unfold anr
 split
 ·exact Sj hl _ aAZ
 ·split
  ·unfold jq;split
   ·exact hl
   ·rename_i k hk;obtain⟨t,j,L,y,_⟩:=Rb hk;rw[j];simp only;split
    ·exact hl
    ·rename_i W;split
     ·exact hl
     ·rename_i h8;split
      ·exact hl
      ·rename_i hb;obtain⟨R,A,o3⟩:=hl.each t (List.mem_of_getElem? j);refine hl.set j rfl ⟨axa R (C t (List.mem_of_getElem? j) y) aZ bG,?_,bG⟩;obtain⟨T,M,V,N,z,S,B,X⟩:=A;refine⟨T,M,V,N,z,S,B,?_⟩;intro e H;rcases List.mem_append.1 H with h|h;all_goals grind
  ·split
   ·unfold jN;split
    ·exact hl
    ·rename_i k hk;obtain⟨t,j,L,y,_⟩:=Rb hk;rw[j];exact hl.set j rfl (hl.each t (List.mem_of_getElem? j))
   ·split
    ·unfold jO;exact ai2
    ·split
     ·exact Sj hl _ O
     ·exact ai2
section
open Go Go.RowKit Go.ChangeShapes Go.WideShapes Go.ChangeAt
abbrev jm(t:fT)(vf ve:aQ):Array aQ:=#[G J t.e.kind,G J t.e.br,G E (t.e.life:Int),G E (t.e.dN:Int),G J t.e.cl,G E (t.e.sub:Int),vf,ve,ar t.asked]
def eC:fE fT where
 size:=9
 rel t cs w:=∃vf ve,cs=(jm t vf ve).toList/\fQ t.e.f vf w/\bw dS t.e.es ve w
 len:=by rintro _ _ _⟨vf,ve,rfl,_⟩;rfl
 one:=by rintro x _ _⟨vf,ve,rfl,⟨A,c,rfl,_⟩,⟨z,d,rfl,_⟩⟩ u hu;exact ai3
 st:=by rintro _ _ _ _⟨vf,ve,rfl,y,j⟩ k;exact⟨vf,ve,rfl,fJ _ _ _ _ y k,cH j k⟩
def Pd(t:fT)(v:aQ)(w:aP):Prop:=∃vf ve,v=av (jm t vf ve)/\fQ t.e.f vf w/\bw dS t.e.es ve w
end
def yd(B:Nat)(x:bW)(v:aQ)(w:aP):Prop:=∃vf ve,v=av (bQ x vf ve)/\iF w B vf x.f/\cE B B 35 dS x.es ve w
theorem aA0{B x v w}(h:yd B x v w):∀w',bV B U w w'->yd B x v w':=by obtain⟨vf,ve,e,t,j⟩:=h;exact λw' u=>⟨vf,ve,e,t.up u,j.up (bL _) u⟩
theorem azi{B x v w}(h:yd B x v w):fc x v w:=by obtain⟨vf,ve,e,t,j⟩:=h;exact⟨vf,ve,e,yZ t,j.bw⟩
theorem MA x v w(h:fc x v w)(X:fX x) :
 aK prog 151 #[v] w λe w'=>∃v',e=ak v'/\yd (Z (D w)) x v' w'/\K w w':=by
 have zF:=aY func151
 have T:=aY ntmps151
 have zR:=aY results151
 obtain⟨vf,ve,rfl,Y,he⟩:=h
 obtain⟨A,c,L,O⟩:=Y
 obtain rfl:=L
 obtain⟨B,d,L,he,hd⟩:=he
 obtain rfl:=L
 obtain⟨hs1,gH,R⟩:=X
 obtain⟨k,b,l,s,cl,u,f,es⟩:=x
 simp only at O he hd hs1 gH R⊢
 have H:=(bn.new w 128 (bQ ⟨k,b,l,s,cl,u,f,es⟩ (F A (Q f) c) (F B (Q es) d))).alloc (aq gE 128)
 have C:=bn.new (aU w (aq (bQ ⟨k,b,l,s,cl,u,f,es⟩ (F A (Q f) c) (F B (Q es) d)) 128)) 128 gE
 have k1:=K.lK w (aq (bQ ⟨k,b,l,s,cl,u,f,es⟩ (F A (Q f) c) (F B (Q es) d)) 128) (aq gE 128)
 have hz:Z (D (aU w (aq (bQ ⟨k,b,l,s,cl,u,f,es⟩ (F A (Q f) c) (F B (Q es) d)) 128)))=Z (D w)+1:=bq
 rw[hz]at C
 have I9:=aY R
 go_enter zF.aX,T.aX
 go_upto_region 1 with fail
 generalize ay (ay w _) _=w1 at *
 have S:=(O.below k1 (bL _)).more k1.size
 have hr1:=C.lt
 have q:=H.cell
 have z:=H.frozen
 go_wp2_with (at_builtin;refine j9 rfl _ _ 37 rfl (Z (D w1)) 85 _ 5 56 TF _ 0 [] rfl (mr _ _ _ _) _ A (Q f) c (f.flatMap gT) rfl S (J4 f) ?p1 (bL _) ?_)
 case p1=>omega
 intro V t N _ _ cD
 have M:=H.bF cD
 have cZ:=C.bF cD
 have k2:=k1.tr cD
 obtain⟨A1,c1,rfl,-⟩:=(show iF t (Z (D w1)) V f from N).slice
 have q:=M.cell
 have z:=M.frozen
 have IH:=cD.size
 go_upto_region 3 with fail
 have iH:bn (aV t ⟨Z (D w),6,U⟩ (F A1 (Q f) c1)) (Z (D w)) 128 #[G J k,G J b,G E l,G E s,G J cl,G E u,F A1 (Q f) c1,F B (Q es) d]:=M.cz 6 (F A1 (Q f) c1)
 have fP:=cZ.far (p:=⟨Z (D w),6,U⟩) bq (F A1 (Q f) c1)
 have k3:K w (aV t ⟨Z (D w),6,U⟩ (F A1 (Q f) c1)):=K.set k2 (bL _) 6 _
 have iB:iF (aV t ⟨Z (D w),6,U⟩ (F A1 (Q f) c1)) (Z (D w1)) (F A1 (Q f) c1) f:=iF.up N (bV.set aZ 6 _)
 have vV:Z (D w)+1<Z (D (aV t ⟨Z (D w),6,U⟩ (F A1 (Q f) c1))):=NA
 generalize t.setCell _ _=w3 at *
 have yD:=K.rf w3
 have q:=iH.cell
 go_wp2_with fail
 go_loopw [3,5,13] (fun o _ i W=>∃j:Nat,j<=Q es/\i=G J j/\cE (Z (D w3)) (Z (D w3)) 35 dS (es.take j) o W/\K w3 W) (fun _ _ i _=>Q es-(aO i).toNat)
 case atStart=>exact⟨0,aZ,rfl,H8,yD⟩
 case round => exact NC
theorem Q4 x v w(h:fc x v w)(X:fX x) :
 aK prog 144 #[v] w λe w'=>∃v',e=ak v'/\yd (Z (D w)) x v' w'/\K w w':=by
 have zF:=aY func144
 have T:=aY ntmps144
 have zR:=aY results144
 obtain⟨vf,ve,rfl,Y,he⟩:=h
 obtain⟨A,c,L,O⟩:=Y
 obtain rfl:=L
 obtain⟨B,d,L,he,hd⟩:=he
 obtain rfl:=L
 obtain⟨hs1,gH,R⟩:=X
 obtain⟨k,b,l,s,cl,u,f,es⟩:=x
 simp only at O he hd hs1 gH R⊢
 have H:=(bn.new w 128 (bQ ⟨k,b,l,s,cl,u,f,es⟩ (F A (Q f) c) (F B (Q es) d))).alloc (aq gE 128)
 have C:=bn.new (aU w (aq (bQ ⟨k,b,l,s,cl,u,f,es⟩ (F A (Q f) c) (F B (Q es) d)) 128)) 128 gE
 have k1:=K.lK w (aq (bQ ⟨k,b,l,s,cl,u,f,es⟩ (F A (Q f) c) (F B (Q es) d)) 128) (aq gE 128)
 have hz:Z (D (aU w (aq (bQ ⟨k,b,l,s,cl,u,f,es⟩ (F A (Q f) c) (F B (Q es) d)) 128)))=Z (D w)+1:=bq
 rw[hz]at C
 have I9:=aY R
 go_enter zF.aX,T.aX
 go_upto_region 1 with fail
 generalize ay (ay w _) _=w1 at *
 have S:=(O.below k1 (bL _)).more k1.size
 have hr1:=C.lt
 have q:=H.cell
 have z:=H.frozen
 go_wp2_with (at_builtin;refine j9 rfl _ _ 37 rfl (Z (D w1)) 85 _ 5 56 TF _ 0 [] rfl (mr _ _ _ _) _ A (Q f) c (f.flatMap gT) rfl S (J4 f) ?p1 (bL _) ?_)
 case p1=>omega
 intro V t N _ _ cD
 have M:=H.bF cD
 have cZ:=C.bF cD
 have k2:=k1.tr cD
 obtain⟨A1,c1,rfl,-⟩:=(show iF t (Z (D w1)) V f from N).slice
 have q:=M.cell
 have z:=M.frozen
 have IH:=cD.size
 go_upto_region 3 with fail
 have iH:bn (aV t ⟨Z (D w),6,U⟩ (F A1 (Q f) c1)) (Z (D w)) 128 #[G J k,G J b,G E l,G E s,G J cl,G E u,F A1 (Q f) c1,F B (Q es) d]:=M.cz 6 (F A1 (Q f) c1)
 have fP:=cZ.far (p:=⟨Z (D w),6,U⟩) bq (F A1 (Q f) c1)
 have k3:K w (aV t ⟨Z (D w),6,U⟩ (F A1 (Q f) c1)):=K.set k2 (bL _) 6 _
 have iB:iF (aV t ⟨Z (D w),6,U⟩ (F A1 (Q f) c1)) (Z (D w1)) (F A1 (Q f) c1) f:=iF.up N (bV.set aZ 6 _)
 have vV:Z (D w)+1<Z (D (aV t ⟨Z (D w),6,U⟩ (F A1 (Q f) c1))):=NA
 generalize t.setCell _ _=w3 at *
 have yD:=K.rf w3
 have q:=iH.cell
 go_wp2_with fail
 go_loopw [3,5,13] (fun o _ i W=>∃j:Nat,j<=Q es/\i=G J j/\cE (Z (D w3)) (Z (D w3)) 35 dS (es.take j) o W/\K w3 W) (fun _ _ i _=>Q es-(aO i).toNat)
 case atStart=>exact⟨0,aZ,rfl,H8,yD⟩
 case round => exact NC
section
variable {α β:Type} {S:fE α} {S2:fE β} {Y Y' X:Nat->Prop} {base lo:Nat} {e e2:TypeId} {l:List α} {l2:List β} {v v2:aQ} {w w':aP}
theorem bK.to(h:bK Y base e S l v w)(u:bf X w w')(M:∀k,X k->Y k)(hn:∀k,aW v=I k->¬X k)(L:∀k,k<Z (D w)->Y' k->Y k∨aW v=I k):bK Y' base e S l v w':=by obtain⟨css,A,z,C⟩:=h;exact⟨css,ke A u λb H y=>hn b H y,z,λt B=>C t ((u.more λk hk=>aI (M k hk)).iA B λk hk j=>j.elim (λj=>L k hk j) aJ)⟩
structure nz(lo base:Nat)(e:TypeId)(S:fE α)(l:List α)(v:aQ)(e2:TypeId)(S2:fE β)(l2:List β)(v2:aQ)(w:aP):Prop where
 a:bK (λk=>k<lo∨aW v2=I k) base e S l v w
 b:bK (λk=>k<lo∨aW v=I k) base e2 S2 l2 v2 w
 ne:∀k,aW v=I k->aW v2=I k->False
 lo:lo<=base
theorem nz.st(h:nz lo base e S l v e2 S2 l2 v2 w)(k:K w w'):nz lo base e S l v e2 S2 l2 v2 w':=⟨h.a.st k,h.b.st k,h.ne,h.lo⟩
theorem nz.low{base'}(h:nz lo base e S l v e2 S2 l2 v2 w)(hb:base'<=base)(j:lo<=base'):nz lo base' e S l v e2 S2 l2 v2 w:=⟨h.a.low hb,h.b.low hb,h.ne,j⟩
theorem nz.swap(h:nz lo base e S l v e2 S2 l2 v2 w):nz lo base e2 S2 l2 v2 e S l v w:=⟨h.b,h.a,λk t j=>h.ne k j t,h.lo⟩
theorem nz.aa2(h:bK (λk=>k<lo) base e S l v w)(j:lo<=base):nz lo base e S l v e2 S2 ([]:List β) (F U 0 0) w :=
 ⟨h.less (Y':=λk=>k<lo∨aW (F U 0 0)=I k) λk hk=>hk.elim id λh=>Ia,bK.nil _ _ _ _ _,λk _ h=>Ia,j⟩
theorem nz.push(h:nz lo base e S l v e2 S2 l2 v2 w){j z}(h9:bK (λk=>k<lo∨aW v2=I k) base e S z j w')(hg:w.grownBy w' (aW v))(hb:aW j=aW v∨aW j=I (Z (D w))):nz lo base e S z j e2 S2 l2 v2 w':=by
 have hz:=h.b.blk;refine⟨h9,h.b.to (X:=λk=>aW v=I k) (bf.gy hg λk e=>e) (λk hk=>aJ hk) (λk y t=>h.ne k t y) (λk hk A=>?_),λk y t=>?_,h.lo⟩
 ·grind
 ·rcases hb with hb|hb
  ·exact h.ne k (hb▸y) t
  grind
end
section
variable {α:Type} {S:fE α} {Y N:Nat->Prop} {base lo:Nat} {e:TypeId} {l:List α} {v:aQ} {x:α} {w w' W:aP}
theorem bK.own(h:bK Y base e S l v w){b}(hb:aW v=I b):base<=b/\b<Z (D w)/\∃cur,bn w b e cur :=
 ⟨(h.blk b hb).1,(h.blk b hb).2,h.elim λ_ h=>nK h.1 hb⟩
theorem fL.mut{row u}(h:fL N lo e S x u w)(k:w.grownBy w' row)(A:∀b,row=I b->N b/\b<lo):fL N lo e S x u w':=by obtain⟨g,cs,j,y,t,z⟩:=h;exact⟨g,cs,j,y,t.grown k λh=>bG,z.up (bf.gy (X:=λb=>row=I b) k λ_ h=>h) λb h=>(A b h).1⟩
theorem vX.mut{row u}(h:vX N S x u w)(k:w.grownBy w' row)(j:∀b,row=I b->N b):vX N S x u w' :=
 ⟨h.1,h.2.up (bf.gy (X:=λb=>row=I b) k λ_ h=>h) j⟩
abbrev oI(v:aQ)(w W:aP):Prop:=bf (λk=>aW v=I k) w W
theorem FB{P:Program}{aR:Exit->Act->aP->Prop}{id:Nat}{ops:Array Oper}{y:Act}(m z:Nat)(l:List α)(v:aQ)(x:α)(M:TypeId){X:aQ}{size bytes:Nat}(T:ir P M e X size bytes){s u:Operand}{o:Oper}{C:List Nat×List (Nat×Nat)}(B:List (List Nat×List (Nat×Nat)))(n:Nat)
 (hO:bK Y base e S l v w) (hb:base<=Z (D w)) (hl:(Q l+1)*(bytes+1)<=140737488355328)
 (h:bA P y (oI v w) (λW W'=>W.grownBy W' (aW v)) [z] (λr xs t=>(∀v W,tab t z v W)/\(∀V W,oI v w W->(∀j∈C.1,tab t j (V j) W)->bP C.2 y V s=v/\fL (λk=>Y k∨aW v=I k) 0 e S x (bP C.2 y V u) W) /\
  ∀V W,oI v w W->bK Y base e S (l++[x]) (V z) W->(∀b,aW (V z)=I b->aW v=I b∨Z (D w)<=b)->dx V W 0 t->bJ P y (λV W=>aR .normal (iu V ops.toList 0 y) W) m r xs V W) m ops.toList B [])
 (hz:ops[z]?=I o:=by rfl) (hx:B[z]?=I C:=by rfl) (hop:o.op=.call { callee:=.builtin .append,args:=#[s,u],argTypes:=#[M,M] }:=by rfl) (hg:o.guard=none:=by rfl) (hS:S.size=size:=by rfl)
 (hn:y.tmps.size=n:=by rfl) (hm:P.follows .mixedOrders=true:=by kernel_rfl) (hok:rL ops n=true:=by kernel_rfl) (hpl:tk ops B=true:=by kernel_rfl) (iO:FU B m ops.size=true:=by kernel_rfl) (BR:Df B [z] m=true:=by kernel_rfl) (oh:m<=ops.size:=by decide) :
 (Code.region id ops aA).wp P aR y w :=
 Mw m [z] (oI v w) (λW W'=>W.grownBy W' (aW v)) (λk vs W=>if k=0 then bK Y base e S l v W else ∃v',vs=[v']/\bK Y base e S (l++[x]) v' W/\∀b,aW v'=I b->aW v=I b∨Z (D w)<=b) B n
  (λ_ _ h k=>h.tr (bf.bS k _)) (λ_ _ h=>Ef h _) (λk vs W W' h kW=>by
   split at h
   ·next H=>rw[bT H];exact h.st kW
   ·next H =>
    rw[bO H];obtain⟨v',A,R,O⟩:=h;exact⟨v',A,R.st kW,O⟩) (bf.rf _ _) (λ_=>hO)
  (bA.imp (λr xs t ⟨H,R,O⟩=>⟨⟨⟨o,C,hz,hx,hg,λV W hW hD hp=>by
   obtain⟨A,hr⟩:=R V W hW hp
   obtain⟨v',w',hrun,N,L,g3,-⟩:=agk (P:=P) (ρ:=bP C.2 y V) s u M o.type X size bytes T hS A hD _ rfl x hr hl (cI hb hW.size)
   rw[hop,hrun]
   exact⟨hW.tr (bf.gy L λ_ h=>h),L,⟨v',rfl,N,λb hb=>g3.elim (λh=>aI (h▸hb)) λh=>aJ ai4⟩,H _ _⟩⟩,trivial⟩,
   λV W hW ⟨v',A,N,L⟩ hA=>by
    injection A with A;subst A;exact O V W hW N L hA⟩) _ _ _ _ h) hn hm hok hpl iO BR bq oh
end
theorem bA.Gg{P:Program}{C:Act}{R:aP->Prop}{H:List Nat}{M:List Oper->List (List Nat×List (Nat×Nat))->List (aQ->aP->Prop)->Prop}{m:Nat}{o:Oper}{r:List Oper}{A:List Nat×List (Nat×Nat)}{xs:List (List Nat×List (Nat×Nat))}{t:List (aQ->aP->Prop)}{row:Option Nat}
 {α:Type} {S:fE α} {e:TypeId} {N:Nat->Prop} (lo:Nat) {B:TypeId} {z:aQ} {size bytes:Nat} (T:ir P B e z size bytes) {L:Operand} (y:α) (hR:∀W,R W->lo<=Z (D W)) (hN:∀b,row=I b->N b/\b<lo)
 (h:∀(V:Nat->aQ) (w:aP),R w->(∀j∈A.1,tab t j (V j) w)->vX N S y (bP A.2 C V L) w)
 (k:bA P C R (λW W'=>W.grownBy W' row) H M m r xs (t++[fL N lo e S y])) (hop:o.op=.buildSlice B 1 #[(0,L)]:=by rfl) (hg:o.guard=none:=by rfl) (hS:S.size=size:=by rfl) (X:size<=16777216:=by decide) (Y:H.contains (Q t)=false:=by (simp only[eU,fY,List.length_nil,List.contains_nil];try rfl)) :
 bA P C R (λW W'=>W.grownBy W' row) H M (m+1) (o :: r) (A :: xs) t:=by
 refine bA.op (fL N lo e S y) (λ_ _ _ h k=>h.mut k hN) (λV w O hp=>?_) k Y
 obtain⟨h1,h2⟩:=h V w O hp
 rw[hg,bT (show dC V U=aA from rfl),hop,ae0 (P:=P) (w:=w) B _ z size bytes T L rfl aZ X]
 exact⟨fL.new h2 lo (hR w O),(K.rf w).al _⟩
theorem Et{B x v w}(h:yd B x v w):∃vf ve,v=av (bQ x vf ve)/\Fx (λk=>k<B) (λW=>cF.rel x (bQ x vf ve).toList W) w:=by have j:=h;obtain⟨vf,ve,e,-,-⟩:=h;refine⟨vf,ve,e,λW u=>?_⟩;obtain⟨z,A,t,y,j⟩:=azi (aA0 j W (u.uE λk y _ _ j=>aZ));rw[e]at t;injection t with t;exact⟨z,A,congrArg Array.toList t,y,j⟩
theorem Sk{B x v w N}(h:yd B x v w)(t:∀k,N k->k<B):vX N cF x v w:=by obtain⟨vf,ve,rfl,j⟩:=Et h;exact⟨rfl,j.less t⟩
theorem aCs:(prog.info? 128).map (λi=>(i.zero,i.size,i.bytes))=I (I (av gE),8,96):=by rfl
theorem rz:ir prog 59 128 (av gE) 8 96:=⟨underlying59,aCs,rfl,bC⟩
theorem aCt:(prog.info? 42).map (λi=>(i.zero,i.size,i.bytes))=I (I (av #[G J 0,G E 0,G E 0]),3,24):=by rfl
theorem wg:ir prog 53 42 (av #[G J 0,G E 0,G E 0]) 3 24:=⟨underlying53,aCt,rfl,bC⟩
abbrev dY(s:fe)(vl vp va:aQ):Array aQ:=#[G E (s.life:Int),vl,vp,va]
def pF(s:fe)(v:aQ)(w:aP):Prop:=∃vl vp va,v=av (dY s vl vp va)/\bw cF s.list vl w/\bw cF s.prom vp w/\bw dJ s.ab va w
theorem N6{s v w w'}(h:pF s v w)(k:K w w'):pF s v w':=by obtain⟨vl,vp,va,e,y,j,t⟩:=h;exact⟨vl,vp,va,e,cH y k,cH j k,cH t k⟩
theorem ahj(l:List cB):(l.map gY).flatten=l.flatMap gY:=by rfl
theorem RD l W:Each dJ l (l.map gY) W:=⟨bq,λi h j=>by simp[dJ]⟩
def nF(M:Nat->Prop)(s:fe)(vl vp va:aQ)(w:aP):Prop:=Fx M (λW=>bw cF s.list vl W/\bw cF s.prom vp W/\bw dJ s.ab va W) w
theorem nF.sl{M s vl vp va w}(h:nF M s vl vp va w):(∃A c,vl=F A (Q s.list) c)/\(∃A c,vp=F A (Q s.prom) c)/\∃A c,va=F A (Q s.ab) c:=⟨bD h.now.1,bD h.now.2.1,bD h.now.2.2⟩
def jT(base g:Nat)(vl vp va:aQ)(k:Nat):Prop:=k<base∨k=g∨aW vl=I k∨aW vp=I k∨aW va=I k
structure gA(base g:Nat)(s:fe)(vl vp va:aQ)(W:aP):Prop where
 blk:bn W g 61 (dY s vl vp va)
 low:base<=g
 l:bK (jT base g vl vp va) base 128 cF s.list vl W
 p:bK (jT base g vl vp va) base 128 cF s.prom vp W
 a:bK (jT base g vl vp va) base 42 dJ s.ab va W
 ne:∀b,aW vl=I b->aW vp≠I b
def BX(base g:Nat)(s:fe)(W:aP):Prop:=∃vl vp va,gA base g s vl vp va W
section
variable {base g:Nat} {s:fe} {vl vp va v':aQ} {W W':aP}
theorem gA.st(h:gA base g s vl vp va W)(k:K W W'):gA base g s vl vp va W':=⟨h.blk.bF k,h.low,h.l.st k,h.p.st k,h.a.st k,h.ne⟩
theorem gA.lt(h:gA base g s vl vp va W)(hb:base<=Z (D W)) k(hk:jT base g vl vp va k):k<Z (D W):=by
 have:=h.blk.lt
 have:=h.l.blk
 have:=h.p.blk
 have:=h.a.blk
 unfold jT at hk
 grind
theorem gA.pF(h:gA base g s vl vp va W):pF s (av (dY s vl vp va)) W:=⟨vl,vp,va,rfl,h.l.bw,h.p.bw,h.a.bw⟩
theorem gA.sep(h:gA base g s vl vp va W) b:(aW vl=I b->base<=b/\b≠g/\aW vp≠I b/\aW va≠I b)/\(aW vp=I b->base<=b/\b≠g/\aW vl≠I b/\aW va≠I b)/\(aW va=I b->base<=b/\b≠g/\aW vl≠I b/\aW vp≠I b):=by
 have:=λe=>h.l.own (b:=b) e
 have:=λe=>h.p.own (b:=b) e
 have:=λe=>h.a.own (b:=b) e
 have:=h.ne b
 have hb:=h.blk
 have d1:∀ {cur cs},bn W b 128 cur->¬bn W b 42 cs:=λh k=>absurd (h.js k) bC
 have d2:∀ {cur cs},bn W b 128 cur->¬bn W b 61 cs:=λh k=>absurd (h.js k) bC
 have d3:∀ {cur cs},bn W b 42 cur->¬bn W b 61 cs:=λh k=>absurd (h.js k) bC
 grind
theorem gA.zE{j t y X α S e}{l:List α}{v}(h:bK (jT base g vl vp va) base e S l v W)(u:bf X W W')(H:∀k,X k->jT base g vl vp va k)(B:∀k,aW v=I k->¬X k)
 (A:∀b,aW j=I b->aW vl=I b∨Z (D W)<=b∨aW v=I b) (z:∀b,aW t=I b->aW vp=I b∨Z (D W)<=b∨aW v=I b) (C:∀b,aW y=I b->aW va=I b∨Z (D W)<=b∨aW v=I b):bK (jT base g j t y) base e S l v W' :=
 h.to u H B λk hk L=>by
  unfold jT at *
  have:=A k
  have:=z k
  have:=C k
  grind
theorem gA.KU(h:gA base g s vl vp va W)(u:oI vl W W'){l}(A:bK (jT base g vl vp va) base 128 cF l v' W')(y:∀b,aW v'=I b->aW vl=I b∨Z (D W)<=b):gA base g ⟨s.life,l,s.prom,s.ab⟩ v' vp va (aV W' ⟨g,1,U⟩ v'):=by
 have us:bf (λk=>aW vl=I k∨k=g) W (aV W' ⟨g,1,U⟩ v'):=(u.more λ_ h=>aI h).tr (bf.dc (X:=λk=>aW vl=I k∨k=g) (aJ rfl) _ _);have z:=h.sep;have hg:=h.blk.lt;have hp:=h.p.blk;refine⟨(h.blk.cA u λe=>((z g).1 e).2.1 rfl).cz 1 _,h.low,gA.zE A (bf.dc (X:=λk=>k=g) rfl _ _) (λk e=>aJ (aI e)) (λk j t=>?_) (λb e=>aJ (aJ e)) (λb e=>aI e) λb e=>aI e,gA.zE h.p us (λk e=>?_) (λk j t=>?_) (λb e=>(y b e).imp id aI) (λb e=>aI e) λb e=>aI e,gA.zE h.a us (λk e=>?_) (λk j t=>?_) (λb e=>(y b e).imp id aI) (λb e=>aI e) λb e=>aI e,λb j t=>?_⟩;all_goals unfold jT at *
 all_goals grind
theorem gA.aa3(h:gA base g s vl vp va W)(u:oI vp W W'){l}(A:bK (jT base g vl vp va) base 128 cF l v' W')(y:∀b,aW v'=I b->aW vp=I b∨Z (D W)<=b):gA base g ⟨s.life,s.list,l,s.ab⟩ vl v' va (aV W' ⟨g,2,U⟩ v'):=by
 have us:bf (λk=>aW vp=I k∨k=g) W (aV W' ⟨g,2,U⟩ v'):=(u.more λ_ h=>aI h).tr (bf.dc (X:=λk=>aW vp=I k∨k=g) (aJ rfl) _ _);have z:=h.sep;have hg:=h.blk.lt;have hp:=h.l.blk;refine⟨(h.blk.cA u λe=>((z g).2.1 e).2.1 rfl).cz 2 _,h.low,gA.zE h.l us (λk e=>?_) (λk j t=>?_) (λb e=>aI e) (λb e=>(y b e).imp id aI) λb e=>aI e,gA.zE A (bf.dc (X:=λk=>k=g) rfl _ _) (λk e=>aJ (aI e)) (λk j t=>?_) (λb e=>aI e) (λb e=>aJ (aJ e)) λb e=>aI e,gA.zE h.a us (λk e=>?_) (λk j t=>?_) (λb e=>aI e) (λb e=>(y b e).imp id aI) λb e=>aI e,λb j t=>?_⟩;all_goals unfold jT at *
 all_goals grind
theorem gA.aDT(h:gA base g s vl vp va W)(u:oI va W W'){l}(A:bK (jT base g vl vp va) base 42 dJ l v' W')(t:∀b,aW v'=I b->aW va=I b∨Z (D W)<=b):gA base g ⟨s.life,s.list,s.prom,l⟩ vl vp v' (aV W' ⟨g,3,U⟩ v'):=by
 have us:bf (λk=>aW va=I k∨k=g) W (aV W' ⟨g,3,U⟩ v'):=(u.more λ_ h=>aI h).tr (bf.dc (X:=λk=>aW va=I k∨k=g) (aJ rfl) _ _);have z:=h.sep;have hg:=h.blk.lt;refine⟨(h.blk.cA u λe=>((z g).2.2 e).2.1 rfl).cz 3 _,h.low,gA.zE h.l us (λk e=>?_) (λk j y=>?_) (λb e=>aI e) (λb e=>aI e) λb e=>(t b e).imp id aI,gA.zE h.p us (λk e=>?_) (λk j y=>?_) (λb e=>aI e) (λb e=>aI e) λb e=>(t b e).imp id aI,gA.zE A (bf.dc (X:=λk=>k=g) rfl _ _) (λk e=>aJ (aI e)) (λk j y=>?_) (λb e=>aI e) (λb e=>aI e) λb e=>aJ (aJ e),h.ne⟩;all_goals unfold jT at *
 all_goals grind
theorem gA.aA1(h:gA base g s vl vp va W) n:gA base g ⟨n,s.list,s.prom,s.ab⟩ vl vp va (aV W ⟨g,0,U⟩ (G E n)):=by have u:bf (λk=>k=g) W (aV W ⟨g,0,U⟩ (G E n)):=bf.dc (X:=λk=>k=g) rfl _ _;have:=h.sep g;refine⟨h.blk.cz 0 _,h.low,gA.zE h.l u (λk e=>aJ (aI e)) (λk j t=>?_) (λb e=>aI e) (λb e=>aI e) λb e=>aI e,gA.zE h.p u (λk e=>aJ (aI e)) (λk j t=>?_) (λb e=>aI e) (λb e=>aI e) λb e=>aI e,gA.zE h.a u (λk e=>aJ (aI e)) (λk j t=>?_) (λb e=>aI e) (λb e=>aI e) λb e=>aI e,h.ne⟩;all_goals grind
theorem gA.fx(h:gA base g s vl vp va W):nF (λk=>k<base) s vl vp va W:=λW' u =>
 have j:=h.l.blk
 have hp:=h.p.blk
 have t:=h.a.blk
 ⟨(h.l.to u (λk e=>aI e) (λk e h=>by have:=j k e;omega) (λ_ _ h=>aI h)).bw,(h.p.to u (λk e=>aI e) (λk e h=>by have:=hp k e;omega) (λ_ _ h=>aI h)).bw,(h.a.to u (λk e=>aI e) (λk e h=>by have:=t k e;omega) (λ_ _ h=>aI h)).bw⟩
theorem gA.nil{n l}(hb:bn W g 61 (dY ⟨n,[],[],l⟩ (F U 0 0) (F U 0 0) va))(hg:base<=g)(j:bK (jT base g (F U 0 0) (F U 0 0) va) base 42 dJ l va W):gA base g ⟨n,[],[],l⟩ (F U 0 0) (F U 0 0) va W :=
 ⟨hb,hg,bK.nil _ _ _ _ _,bK.nil _ _ _ _ _,j,λb h=>Ia⟩
theorem gA.slices(h:gA base g s vl vp va W):(∃A c,vl=F A (Q s.list) c)/\(∃A c,vp=F A (Q s.prom) c)/\∃A c,va=F A (Q s.ab) c:=⟨h.l.slice,h.p.slice,h.a.slice⟩
theorem N7{w cs} s vl vp va(h:bn W g 61 cs)(j:cs.size=4)(k:K w W)(hg:Z (D w)<=g):bn ((((aV W ⟨g,0,U⟩ (G E s.life)).setCell ⟨g,1,U⟩ vl).setCell ⟨g,2,U⟩ vp).setCell ⟨g,3,U⟩ va) g 61 (dY s vl vp va)/\K w ((((aV W ⟨g,0,U⟩ (G E s.life)).setCell ⟨g,1,U⟩ vl).setCell ⟨g,2,U⟩ vp).setCell ⟨g,3,U⟩ va)/\bf (λk=>k=g) W ((((aV W ⟨g,0,U⟩ (G E s.life)).setCell ⟨g,1,U⟩ vl).setCell ⟨g,2,U⟩ vp).setCell ⟨g,3,U⟩ va) :=
 have u:=bf.sets (X:=λk=>k=g) rfl [G E s.life,vl,vp,va] 0 W
 ⟨Cy (us:=[G E s.life,vl,vp,va]) h j.symm,u.k k λk e=>e▸hg,u⟩
end
theorem AG{α:Type}(p:α->Bool)(l:List α)(j:Nat)(t:j<Q l):(l.take (j+1)).any p=((l.take j).any p||p l[j]):=by rw[ix t,List.any_append];simp
theorem AH{α:Type} p(l:List α) j(h:(l.take j).any p=aA):l.any p=true:=by
 grind
theorem ahk l a v w(h:bw cF l v w)(hlen:Q l<=1000000) :
 aK prog 52 #[v,di a] w λe w'=>e=ak (ar (dI l a))/\K w w':=by
 obtain⟨aT,d,rfl,hl,-⟩:=h
 have H:Hid (dI l a=l.any λx=>decide (bB x=a)):=aY rfl
 generalize dI l a=R at *
 have B:=bn.new w 42 #[G J a.1,G E a.2.1,G E a.2.2]
 have k1:=B.cC
 go_in
 go_upto_region 1 with fail
 generalize w.alloc _=L at *
 generalize Z (D w)=g at B⊢
 have S:=B.cells
 have Y:=K.rf L
 go_wp2_with fail
 go_loopw [5,8] (fun _ i wr=>∃j:Nat,j<=Q l/\i=G J j/\Hid ((l.take j).any (fun x=>decide (bB x=a))=az)/\K L wr) (fun _ i _=>Q l-(aO i).toNat)
 case atStart=>exact⟨0,aZ,rfl,aY bq,Y⟩
 case round =>
  obtain⟨j,hj,rfl,HT,kr⟩:=hrel;by_cases N:j<Q l
  ·have M:(j:Int)<Q l:=aZ;obtain⟨A,C,cs1,rfl,jU,hr1,d0,dd⟩:=eN hl j N bC;have HB:=aY (AG (λx=>decide (bB x=a)) l j N);have X:=aY (AH (λx=>decide (bB x=a)) l (j+1));generalize l[j]=x at *;obtain⟨DQ,DR,rfl,vT,zG⟩:=hr1 w (K.rf w);have O:=λW (kW:K wr W)=>S W (kr.tr kW)
   have p1:∀W,K wr W->W.cell? ⟨A,C+j*8+1,U⟩=I (G J (bB x).1):=λW kW=>dd W (k1.tr (kr.tr kW)) 1 bC
   have p2:∀W,K wr W->W.cell? ⟨A,C+j*8+2,U⟩=I (G E ((bB x).2.1:Int)):=λW kW=>dd W (k1.tr (kr.tr kW)) 2 bC
   have p3:∀W,K wr W->W.cell? ⟨A,C+j*8+3,U⟩=I (G E ((bB x).2.2:Int)):=λW kW=>dd W (k1.tr (kr.tr kW)) 3 bC
   go_upto_region 4 with fail;have qs:=aB p1 (aB p2 (aB p3 (aB O M)));refine eQ 7 ?_;iterate 6 refine bA.i ?_
   refine bA.is (ar (decide (bB x=a))) (λV W kW hp=>?_) ?_
   ·simp only[dE,bU,bZ,dA,dB,bM]at hp;simp[dC,bP,aC,hp,eH,aL,bR,bM,ed,go_sem];by_cases t:(bB x).1=a.1
    ·by_cases y:(bB x).2.1=a.2.1
     ·by_cases z:(bB x).2.2=a.2.2
      ·rw[show decide (bB x=a)=aA from decide_eq_true (Prod.ext t (Prod.ext y z))];simp[t,y,z,ed]
      ·rw[show decide (bB x=a)=az from decide_eq_false (λe=>z Kk)];try simp only[t,y,if_true]
       exact Sl
     ·rw[show decide (bB x=a)=az from decide_eq_false (λe=>y Kk)];try simp only[t,if_true]
      exact Sl
    ·rw[show decide (bB x=a)=az from decide_eq_false (λe=>t Kk)];simp[t,ed]
   intro V W kW hA;simp only[bU,bZ,dx,bM,Nat.reduceAdd]at hA;refine bJ.h ?_;have Ls:=kr.tr kW;generalize T:decide (bB x=a)=q at *;have:=aY T;cases q
   ·have pG:Hid ((l.take (j+1)).any (λx=>decide (bB x=a))=az):=aY ai5;exact YF
   ·have HR:Hid (R=aA):=aY (by rw[H.aX];exact X.aX (by rw[HB.aX];simp));go_wp2;go_ret;exact⟨ib,k1.tr Ls⟩
  ·have M:¬(j:Int)<Q l:=aZ;have HR:Hid (R=az):=aY (by
    have t:=HT.aX;rw[iw aZ]at t;rw[H.aX,t])
   go_wp2;go_ret;exact⟨ib,k1.tr kr⟩
theorem aA2{l a k}(hk:k<Q l)(h:l[k]=a):fD l a=true:=by
 grind [fD]
theorem azj{l a}(h:∀x∈l,x≠a):fD l a=false:=by
 grind [fD]
theorem atg l a v w(h:bw dJ l v w)(hlen:Q l<=1000000) :
 aK prog 265 #[v,di a] w λe w'=>∃i:Int,e=ak (G J i)/\K w w'/\fD l a=decide (0<=i):=by
 obtain⟨aT,d,rfl,hl,-⟩:=h
 have S:=aY (@azj l a)
 have HH:=aY λk hk=>@aA2 l a k hk
 have t:=bn.new w 42 #[G J a.1,G E a.2.1,G E a.2.2]
 have k1:=t.cC
 go_in
 go_upto_region 1 with fail
 generalize w.alloc _=L at *
 generalize Z (D w)=g at t⊢
 have T:=t.cells
 have kk:=K.rf L
 go_wp2_with fail
 go_loopw [5,8] (fun _ i wr=>∃j:Nat,j<=Q l/\i=G J j/\Hid (∀x∈l.take j,x≠a)/\K L wr) (fun _ i _=>Q l-(aO i).toNat)
 case atStart=>exact⟨0,aZ,rfl,aY bq,kk⟩
 case round =>
  obtain⟨j,hj,rfl,M,kr⟩:=hrel;by_cases H:j<Q l
  ·have O:(j:Int)<Q l:=aZ;obtain⟨B,C,cs1,rfl,jU,hr1,d0,dd⟩:=eN hl j H bC;have HB:Hid (l[j]≠a->∀x∈l.take (j+1),x≠a):=by
    refine aY λh x t=>?_
    rw[ix H]at t;rcases List.mem_append.1 t with t|t
    ·exact M.aX x t
    ·grind
   have HA:=aY (HH.aX j H);generalize l[j]=x at *;obtain rfl:=hr1 w (K.rf w);have R:=λW (kW:K wr W)=>T W (kr.tr kW)
   have p1:∀W,K wr W->W.cell? ⟨B,C+j*3,U⟩=I (G J x.1):=λW kW=>d0 W (k1.tr (kr.tr kW))
   have p2:∀W,K wr W->W.cell? ⟨B,C+j*3+1,U⟩=I (G E x.2.1):=λW kW=>dd W (k1.tr (kr.tr kW)) 1 bC
   have p3:∀W,K wr W->W.cell? ⟨B,C+j*3+2,U⟩=I (G E x.2.2):=λW kW=>dd W (k1.tr (kr.tr kW)) 2 bC
   go_upto_region 4 with fail;have qs:=aB p1 (aB p2 (aB p3 (aB R O)));refine eQ 6 ?_;iterate 5 refine bA.i ?_
   refine bA.is (ar (decide (a=x))) (λV W kW hp=>?_) ?_
   ·simp only[dE,bU,bZ,dA,dB,bM]at hp;simp[dC,bP,aC,hp,eH,aL,bR,bM,ed,go_sem];by_cases y:a.1=x.1
    ·by_cases z:a.2.1=x.2.1
     ·by_cases A:a.2.2=x.2.2
      ·rw[show decide (a=x)=aA from decide_eq_true (Prod.ext y (Prod.ext z A))];simp[y,z,A,ed]
      ·rw[show decide (a=x)=az from decide_eq_false (λe=>A Kk)];try simp only[y,z,if_true]
       exact Sl
     ·rw[show decide (a=x)=az from decide_eq_false (λe=>z Kk)];try simp only[y,if_true]
      exact Sl
    ·rw[show decide (a=x)=az from decide_eq_false (λe=>y Kk)];simp[y,ed]
   intro V W kW hA;simp only[bU,bZ,dx,bM,Nat.reduceAdd]at hA;refine bJ.h ?_;have Ls:=kr.tr kW;generalize X:decide (a=x)=q at *;have N:=aY X;cases q
   ·have pG:=aY (HB.aX λe=>by have:=of_decide_eq_false N.aX;exact this e.symm);exact YF
   ·have Y:=aY (HA.aX (of_decide_eq_true N.aX).symm);go_wp2;go_ret;exact⟨_,rfl,k1.tr Ls,ic⟩
  ·have O:¬(j:Int)<Q l:=aZ;have Y:=aY (S.aX (by
    have y:=M.aX;rw[iw aZ]at y;exact y))
   go_wp2;go_ret;exact⟨_,rfl,k1.tr kr,ic⟩
theorem Hd l a v w(h:bw dJ l v w)(C:Q l<=1000000) :
 aK prog 206 #[v,di a] w λe w'=>e=ak (ar (fD l a))/\K w w':=by
 have B:=h
 obtain⟨M,d,rfl,L,-⟩:=h
 have t:=bn.new w 42 #[G J a.1,G E a.2.1,G E a.2.2]
 have k1:=t.cC
 have z:=aY λW (kW:K w W)=>atg l a _ W (cH B kW) C
 go_in
 go_wp2_with fail
 generalize w.alloc _=H at *
 refine (z.aX H k1).mono ?_
 rintro e N⟨i,rfl,j,A⟩
 have y:=aY A
 go_wp2
 go_ret
 exact⟨by rw[y.aX];rfl,k1.tr j⟩
theorem FH s a v w(h:pF s v w)(z:Q s.list<=1000000) :
 aK prog 22 #[v,di a] w λe w'=>e=ak (ar (dI s.list a))/\K w w':=by
 obtain⟨vl,vp,va,rfl,t,hp,B⟩:=h
 have y:=aY λW (kW:K w W)=>ahk s.list a _ W (cH t kW) z
 have k1:=K.lK w (aq (dY s vl vp va) 61) (aq #[G J a.1,G E a.2.1,G E a.2.2] 42)
 go_in
 go_wp2_with fail
 generalize ay (ay w _) _=A at *
 apply bN (y.aX A k1)
 intro C j
 go_wp2
 go_ret
 exact⟨rfl,k1.tr j⟩
theorem Mv s a v w(h:pF s v w)(y:Q s.prom<=1000000) :
 aK prog 147 #[v,di a] w λe w'=>e=ak (ar (dI s.prom a))/\K w w':=by
 obtain⟨vl,vp,va,rfl,A,hp,B⟩:=h
 have t:=aY λW (kW:K w W)=>ahk s.prom a _ W (cH hp kW) y
 have k1:=K.lK w (aq (dY s vl vp va) 61) (aq #[G J a.1,G E a.2.1,G E a.2.2] 42)
 go_in
 go_wp2_with fail
 generalize ay (ay w _) _=z at *
 apply bN (t.aX z k1)
 intro C j
 go_wp2
 go_ret
 exact⟨rfl,k1.tr j⟩
theorem JU s a v w(h:pF s v w)(y:Q s.ab<=1000000) :
 aK prog 143 #[v,di a] w λe w'=>e=ak (ar (fD s.ab a))/\K w w':=by
 obtain⟨vl,vp,va,rfl,B,hp,z⟩:=h
 have t:=aY λW (kW:K w W)=>Hd s.ab a _ W (cH z kW) y
 have k1:=K.lK w (aq (dY s vl vp va) 61) (aq #[G J a.1,G E a.2.1,G E a.2.2] 42)
 go_in
 go_wp2_with fail
 generalize ay (ay w _) _=A at *
 apply bN (t.aX A k1)
 intro C j
 go_wp2
 go_ret
 exact⟨rfl,k1.tr j⟩
def ju(a:cB)(x:bW):Bool:=decide (bB x=a)
theorem MZ a x:ju a x=(decide (x.br=a.1)&&decide (x.life=a.2.1)&&decide (x.dN=a.2.2)):=by
 grind [ju,bB]
theorem aew x a v g w(h:fc x v w)(hg:bn w g 42 #[G J a.1,G E a.2.1,G E a.2.2]) :
 aK prog 208 #[v,aj (I ⟨g,0,U⟩)] w λe w'=>e=ak (ar (ju a x))/\K w w':=by
 obtain⟨vf,ve,rfl,B,y⟩:=h
 obtain⟨A,c,rfl⟩:=dK B
 obtain⟨H,d,rfl⟩:=bD y
 have j:=aY (MZ a x)
 have q:=hg.cells
 have:=λo=>(K.rf w).al o
 obtain⟨C,z,t⟩:=a
 obtain⟨k,b,l,s,cl,u,f,es⟩:=x
 simp only at q j⊢
 generalize ju (C,z,t) ⟨k,b,l,s,cl,u,f,es⟩=R at *
 go_in
 go_wp2
 all_goals
  go_ret
  refine⟨?_,(K.rf w).al _⟩
  rw[j.aX]
  show ak (ar _)=ak (ar _)
  first|(simp_all;done)|(simp_all;omega)|(congr 2;rw[Bool.eq_iff_iff];simp_all;omega)
theorem arQ A c l a g w(h:xu cF l A w)(hlen:Q l<=1000000)(hg:bn w g 42 #[G J a.1,G E a.2.1,G E a.2.2]) :
 aK prog 266 #[F A (Q l) c,.func (Fn.func 208) #[] #[aj (I ⟨g,0,U⟩)]] w λe w'=>∃i:Int,e=ak (G J i)/\K w w'/\((i=-1/\∀x∈l,ju a x=az)∨∃k:Nat,k<Q l/\i=(k:Int)/\(∀x∈l.take k,ju a x=az)/\∀x,l[k]?=I x->ju a x=aA):=by
 have S:=K.rf w
 go_in
 go_wp2_with fail
 go_loopw [5,8] (fun _ i wr=>∃k:Nat,k<=Q l/\i=G J k/\Hid (∀t∈l.take k,ju a t=az)/\K w wr) (fun _ i _=>Q l-(aO i).toNat)
 case atStart=>exact⟨0,aZ,rfl,aY bq,S⟩
 case round =>
  obtain⟨k,hk,rfl,hall,kr⟩:=hrel;by_cases hlt:k<Q l
  ·have N:(k:Int)<Q l:=aZ;obtain⟨B,z,cs,rfl,hcl,T,C,d⟩:=eN h k hlt bC;have V:Hid (ju a l[k]=az->∀t∈l.take (k+1),ju a t=az):=ai6;have R:Hid (ju a l[k]=aA->∀x,l[k]?=I x->ju a x=aA):=aY λh x hx=>by
    grind
   generalize l[k]=t at *;obtain⟨vf,ve,rfl,L,M⟩:=T wr kr;have C:∀W,K w W->W.cell? ⟨B,z+k*8,U⟩=I (G J t.kind):=C;have d:∀W,K w W->∀i,i<8->W.cell? ⟨B,z+k*8+i,U⟩=(bQ t vf ve)[i]?:=λW j H=>λO=>(d W j H O).trans aD
   go_wp2_with fail
   apply dP (aew t a _ g wr ⟨vf,ve,rfl,L,M⟩ (hg.bF kr)) kr;intro Y X kW;cases hx:ju a t
   ·have rA:=aY (V.aX hx);exact Kl
   ·have y:=aY (R.aX hx);go_wp2;go_ret;exact⟨_,rfl,kW,aJ ⟨k,hlt,rfl,hall.aX,y.aX⟩⟩
  ·have N:¬(k:Int)<Q l:=aZ;have y:=aY (by
    have:=hall.aX;rw[iw aZ]at this;exact this)
   go_wp2;go_ret;exact⟨_,rfl,kr,aI ⟨rfl,y.aX⟩⟩
def Ga(a:cB)(z:List (bW×List aQ)):List (bW×List aQ):=z.filter λp=>!ju a p.1
theorem YG{α β:Type}:∀(l:List α) (m:List β),Q m=Q l->(l.zip m).map (·.1)=l
 | [],[],_=>rfl
 | _ :: _,[],h=>yY
 | [],_ :: _,h=>yY
 | x :: l,y :: m,h=>by simp at h;simp[YG l m h]
theorem ai7{α β:Type}:∀(l:List α) (m:List β),Q m=Q l->(l.zip m).map (·.2)=m
 | [],[],_=>rfl
 | _ :: _,[],h=>yY
 | [],_ :: _,h=>yY
 | x :: l,y :: m,h=>by simp at h;simp[ai7 l m h]
theorem azk{α S W}:∀(z:List (α×List aQ)),(∀p∈z,S.rel p.1 p.2 W)->Each S (z.map (·.1)) (z.map (·.2)) W:=by
 intro z h
 refine⟨bq,λi j t=>?_⟩
 grind
theorem aub{α S W}{l:List α}{css}(h:Each S l css W):∀p∈l.zip css,S.rel p.1 p.2 W:=by intro p hp;obtain⟨i,j,rfl⟩:=List.mem_iff_getElem.1 hp;simp only[List.getElem_zip];have:=h.1;rw[List.length_zip]at j;exact h.2 i aZ aZ
theorem ahl{l css}(j:Q css=Q l) a:(Ga a (l.zip css)).map (·.1)=kK l a:=by unfold Ga kK;rw[show (λp:bW×List aQ=>!ju a p.1)=(λx=>!decide (bB x=a)) ∘ (·.1)from rfl,<- List.filter_map,YG l css j]
theorem ahm:∀(us xs:List aQ) (q:Nat),q+Q us<=Q xs->qM xs q us=xs.take q++us++xs.drop (q+Q us)
 | [],xs,q,_=>by simp[qM]
 | u :: us,xs,q,h=>by simp only[fY]at h;rw[qM,ahm us _ (q+1) cG];rw[ix cG,List.take_set_of_le (bL _),List.drop_set_of_lt aZ];simp[Nat.add_assoc,Nat.add_comm 1]
theorem asA{P w t e z cur}(B:P.underlying t=some (.slice e))(H:∀w,(zeroValue e).run P w=.ok z w) g o m(hb:bn w g e cur)(M:o+m*z.cells.size<=cur.size)(R:0<m)(S:∀u∈z.cells.toList,u.oneCell'=aA)(hz:0<z.cells.size) :
 ∃w' j,(∀ty c,(Builtin.clear_ #[t] ty #[F (I ⟨g,o,U⟩) m c]).run P w=.ok (au #[]) w')/\bn w' g e j/\j.size=cur.size/\j.toList.take o=cur.toList.take o/\w.grownBy w' (I g):=by
 have:Q (Builtin.zeroCells z.cells m).toList=m*z.cells.size:=by simp[Builtin.zeroCells]
 have L:∀u∈(Builtin.zeroCells z.cells m).toList,u.oneCell'=true:=by
  intro u A
  simp only[Builtin.zeroCells,Array.toList_map,List.mem_map]at A
  obtain⟨i,O,rfl⟩:=A
  grind [Nat.mod_lt]
 have y:=run_storeCells_at P g o e (Builtin.zeroCells z.cells m).toList 0 cur w hb aZ L
 simp only[Nat.add_zero]at y
 refine⟨_,(cur.toList.take o++(Builtin.zeroCells z.cells m).toList++cur.toList.drop (o+Q (Builtin.zeroCells z.cells m).toList)).toArray,λty c=>?_,setRow_heap w g cur _ e _ hb,?_,?_,⟨rfl,rfl,rfl,bq,λk hk C=>setRow_other w g k _ (λe=>C FO)⟩⟩
 ·cases m with
  | zero=>omega
  | succ m=>simp[Builtin.clear_,run_underlying B,H,y]
 all_goals grind
theorem aeo{α:Type}{n}:∀(css:List (List α)),(∀cs∈css,Q cs=n)->∀k,(css.take k).flatten=css.flatten.take (k*n)
 | [],_,k=>bq
 | c :: css,h,0=>bq
 | c :: css,h,k+1=>by have hc:=h c bq;have ih:=aeo css (λx hx=>h x Ki) k;exact ai8
theorem aCu W:(zeroValue 128).run prog W=.ok (av gE) W:=by rfl
theorem aDb{α:Type}(l:List α)(h:Q l=8):∃j c1 c2 c3 c4 c5 c6 c7,l=[j,c1,c2,c3,c4,c5,c6,c7]:=by
 match l,h with
 | [j,c1,c2,c3,c4,c5,c6,c7],_=>exact⟨_,_,_,_,_,_,_,_,rfl⟩
structure Di(l:List bW)(css:List (List aQ))(a:cB)(j i:Nat)(cur:List (List aQ)):Prop where
 len:Q cur=Q l
 lens:∀cs∈cur,Q cs=8
 pre:cur.take i=(Ga a ((l.zip css).take j)).map (·.2)
 post:cur.drop j=css.drop j
 lt:i<j
theorem Di.cut{l css cur a j i}(y:Q css=Q l)(h:Di l css a j i cur)(z:j<Q l)(t:ju a l[j]=aA):Di l css a (j+1) i cur:=by
 refine⟨h.len,h.lens,?_,?_,by have:=h.lt;omega⟩
 ·rw[h.pre,ix bG];simp[Ga,t]
 ·exact ai9
theorem Di.at{l css cur a j i}(_:Q css=Q l)(h:Di l css a j i cur)(_:j<Q l)(y:j<Q cur)(t:j<Q css):cur[j]=css[j]:=by
 have:=congrArg (λx=>x[0]?) h.post
 grind
theorem Di.keep{l:List bW}{css cur:List (List aQ)}{a:cB}{j i:Nat}(H:Q css=Q l)(h:Di l css a j i cur)(L:j<Q l)(t:ju a l[j]=az)(A:Q (css[j]'aZ)=8):Di l css a (j+1) (i+1) (cur.set i (css[j]'aZ)):=by
 have B:=h.len;have C:=h.lt;refine⟨bG,λcs z=>?_,?_,?_,aZ⟩
 ·rcases List.mem_or_eq_of_mem_set z with y|rfl
  ·exact h.lens _ y
  ·exact A
 ·rw[ix bG,List.take_set_of_le (bL _),h.pre,ix bG];simp[Ga,t]
 ·rw[List.drop_set_of_lt aZ];exact ai9
theorem arN l a O base v css w(hown:w.ownsRow base 128 8 v (Q l) css.flatten)(B:Q css=Q l)
 (hE:∀W,bf (λk=>aW v=I k) w W->Each cF l css W) (hg:bn w O 42 #[G J a.1,G E a.2.1,G E a.2.2]) (hlen:Q l<=1000000) :
 aK prog 207 #[v,.func (Fn.func 208) #[] #[aj (I ⟨O,0,U⟩)]] w λe w'=>∃v' C,e=ak v'/\w'.ownsRow base 128 8 v' (Q (kK l a)) C.flatten/\Q C=Q (kK l a)/\aW v'=aW v/\w.grownBy w' (aW v)/\∀W,Each cF l css W->Each cF (kK l a) C W:=by
 have hE0:=hE w (bf.rf _ _)
 have aDU:=Q9 (S:=cF) hown hE0
 obtain⟨A,c,rfl,hl,hc⟩:=aDU
 have C1:=aY (arQ A c l a O w hl hlen hg)
 have HN:Hid ((∀x∈l,ju a x=az)->kK l a=l):=aY λh=>by unfold kK;rw[List.filter_eq_self];intro x hx;have:=h x hx;simpa [ju]using this
 have HO:=aY hown
 have HC:=aY hE
 have c8:=aY hE0.lens
 clear hown hE hE0 hl
 go_in
 go_wp2_with fail
 refine C1.aX.mono ?_
 rintro e w2⟨i0,rfl,k2,hi⟩
 rcases hi with ⟨rfl,hall⟩|⟨k,hk,rfl,hall,hit⟩
 ·have H:=aY (HN.aX hall);clear hall;go_wp2;go_ret;refine⟨_,css,rfl,by rw[H.aX];exact sG HO.aX k2,by rw[H.aX];exact B,rfl,Ef k2 _,λW h=>by rw[H.aX];exact h⟩
 have sq:Hid (Di l css a (k+1) k css):=aY (by
  refine⟨B,c8.aX,?_,rfl,aZ⟩;rw[ix bG];have h1:=hit _ (aE hk);have h2:Ga a ((l.zip css).take k)=(l.zip css).take k:=by unfold Ga;rw[List.filter_eq_self];intro p hp;have this:p.1∈((l.zip css).take k).map (·.1):=List.mem_map_of_mem hp;rw[List.map_take,YG l css B]at this;simp[hall p.1 this]
  unfold Ga at h2⊢;rw[List.filter_append,h2];simp[h1];rw[ai7 l css B])
 clear hall hit HN
 rcases HO.aX.2 with ⟨h0,BZ⟩|⟨g,cap,cur,e0,g1,g2,g3,g4,g5,g6⟩
 ·omega
 obtain⟨rfl,e3⟩:A=I ⟨g,0,U⟩/\cap=c:=bG
 subst e3
 have hg0:w.grownBy w2 (I g):=Ef k2 _
 have cZ:=aY (sG HO.aX k2)
 have hgg:O≠g:=by rintro rfl;exact absurd ((show bn w O _ cur from g2).js hg) bC
 have HG:=aY hg
 have hcm:cap<=9223372036854775807:=g4
 have sW:(k:Int)+1<=(Q l:Int):=aZ
 clear HO k2 g5 g6 g2 hg g4 C1
 go_wp2_with fail
 go_loopw [5,6,7] (fun i j _ W=>∃(j' i':Nat) (z:List (List aQ)),j=G J j'/\i=G J i'/\j'<=Q l/\i'<j'/\Hid (Di l css a j' i' z)/\Hid (W.ownsRow base 128 8 (F (I ⟨g,0,U⟩) (Q l) cap) (Q l) z.flatten)/\w.grownBy W (I g)) (fun _ j _ _=>Q l-(aO j).toNat)
 case atStart=>exact⟨k+1,k,css,cU,rfl,aZ,aZ,sq,cZ,hg0⟩
 case round =>
  clear sq cZ hg0;obtain⟨j,i,z,rfl,rfl,hj,hij,H,L,kr⟩:=hrel;by_cases hlt:j<Q l
  ·have cd:(j:Int)<Q l:=aZ;have BN:(i:Int)<Q l:=aZ;have hrel:=(HC.aX wr (bf.gy kr (λ_ h=>h))).2 j hlt aZ;have c8j:=c8.aX _ (dG (show j<Q css by omega));have y:=H.aX;have HK:=aY (y.keep B hlt);have HX:=aY (y.cut B hlt);have hat:=y.at B hlt (by rw[y.len];exact hlt) aZ;obtain⟨hcell,hfz⟩:=Hi L.aX;have dM:=L.aX.1;have aJr:=y.len;have Ts:=y.lens;generalize hx:l[j]=x at *;obtain⟨vf,ve,hcs,hf,he⟩:=hrel;have d:∀i,i<8->wr.cell? ⟨g,j*8+i,U⟩=(bQ x vf ve)[i]?:=λi hi=>by rw[hcell _ aZ,yV 8 z Ts j i aZ hi,aE (show j<Q z by omega),Option.getD_some,hat,hcs];exact aD
   have d0:wr.cell? ⟨g,j*8,U⟩=I (G J x.kind):=d 0 aZ;have hEv:Hid (∀W,K wr W->fc x (av (bQ x vf ve)) W):=aY λW k=>⟨_,_,rfl,fJ _ _ _ _ hf k,cH he k⟩
   have hgr:=HG.aX.grown kr (λe=>hgg (by injection e));obtain⟨T,V,rfl⟩:=dK hf;obtain⟨M,N,rfl⟩:=bD he;have gh:=bn.new wr 128 (bQ x (F T (Q x.f) V) (F M (Q x.es) N));have k5:=gh.cC;clear hcell hf he hat y;go_upto_region 8 with fail;have HG5:=hgr.bF k5;have oq:=qJ kr (Ef k5 (I g));have j0:=sG L.aX k5;have hE5:=hEv.aX _ k5;clear d d0;generalize wr.alloc _=w5 at *;generalize Z (D wr)=g5 at *;have q5:=gh.cell;go_wp2_with fail
   refine (aew x a _ O w5 hE5 HG5).mono ?_;rintro e w6⟨rfl,k6⟩;have rq:=sG j0 k6;have qh:=qJ oq (Ef k6 (I g));have q6:=(gh.bF k6).cell;clear q5 j0;cases hq:ju a x
   ·have Ja:=HK.aX hq c8j;have jc:=RB (bQ x (F T (Q x.f) V) (F M (Q x.es) N)).toList _ (i*8) w6 rq (by rw[dM];show i*8+8<=_;omega);have e9:=QT 8 (bQ x (F T (Q x.f) V) (F M (Q x.es) N)).toList z Ts i 0 aZ bq;rw[Nat.add_zero]at e9;rw[e9,ahm _ _ _ Kf]at jc;have iV:(z[i]'aZ).take 0++(bQ x (F T (Q x.f) V) (F M (Q x.es) N)).toList++(z[i]'aZ).drop (0+Q (bQ x (F T (Q x.f) V) (F M (Q x.es) N)).toList)=css[j]'aZ:=by simp_all
    rw[iV]at jc;have R:bf (λk=>k=g) w6 (dL w6 g (i*8) (bQ x (F T (Q x.f) V) (F M (Q x.es) N)).toList):=bf.sets (X:=λk=>k=g) (g:=g) rfl _ _ _;have kp:=qJ qh ⟨R.os,R.tape,R.output,R.size,λk hk hne=>R.block k hk bG⟩;obtain⟨hcell,hfz⟩:=Hi rq;obtain⟨c0,c1,c2,c3,c4,c5,c6,c7,hci⟩:=aDb (z[i]'aZ) (Ts _ (dG _));have d6:∀t,t<8->w6.cell? ⟨g,i*8+t,U⟩=#[c0,c1,c2,c3,c4,c5,c6,c7][t]?:=λt ht=>by rw[hcell _ aZ,yV 8 z Ts i t aZ ht,aE (show i<Q z by omega),Option.getD_some,hci];exact aD
    have d60:w6.cell? ⟨g,i*8,U⟩=I c0:=d6 0 aZ;have z6:=λt=>hfz (i*8+t)
    have z60:=hfz (i*8);have UD:=aY Ja;have HR9:=aY jc;clear jc R hcell hfz e9 iV hci HK HX Ja hcs rq;go_wp2;go_roundw
    case rel =>
     (repeat apply Exists.intro)
     refine⟨?_,rfl⟩
     exact⟨j+1,i+1,_,cU,cU,aZ,aZ,UD,HR9,kp⟩
    case measure=>simp[aO];omega
   ·have HX3:=aY (HX.aX hq);have HR9:=aY rq;clear HK HX hcs rq;go_wp2;go_roundw
    case rel =>
     (repeat apply Exists.intro)
     refine⟨?_,rfl⟩
     exact⟨j+1,i,_,cU,rfl,aZ,aZ,HX3,HR9,qh⟩
    case measure=>simp[aO];omega
  ·have cd:¬(j:Int)<Q l:=aZ;obtain rfl:j=Q l:=aZ;have y:=H.aX;have dM:=L.aX.1;rcases L.aX.2 with ⟨h0,BZ⟩|⟨g',cap',cur,e0,r1,r2,r3,r4,r5,r6⟩
   ·cases h0
   injection e0 with Y _ e3;injection Y with Y;injection Y with Y;subst Y e3;have hcz:(av gE).cells.size=8:=rfl;obtain⟨W2,TW,aDV,hb2,gH,ht2,gg⟩:=asA (P:=prog) (w:=wr) (t:=59) (e:=128) underlying59 aCu g (i*8) (Q l-i) r2 bG aZ bC bC;have kp:=qJ kr gg;have zh:=y.pre;rw[iw (l:=l.zip css) bG]at zh;have sW:Q (kK l a)=i:=by rw[<- ahl B a,List.length_map,<- List.length_map (f:=λx:bW×List aQ=>x.2),<- zh,qN,y.len];omega
   have HF:Hid (∃C,W2.ownsRow base 128 8 (F (I ⟨g,0,U⟩) i cap) i C.flatten/\Q C=i/\∀W,Each cF l css W->Each cF (kK l a) C W):=aY (by
    refine⟨z.take i,?_,by rw[qN,y.len];omega,λW hW=>?_⟩
    ·refine⟨?_,aJ ⟨g,cap,TW,rfl,r1,hb2,aZ,r4,aZ,?_⟩⟩
     ·rw[Eg 8 _ (λcs h=>y.lens cs (lB h)),qN,y.len];rw[Nat.min_eq_left aZ]
     ·rw[ht2];have Y:=r6;have e2:=aeo z y.lens i;grind
    ·rw[zh,<- ahl B a];exact azk _ λp hp=>aub hW p (List.mem_filter.1 hp).1)
   have BN:(i:Int)<=Q l:=aZ;have hic:i<=cap:=aZ;have hnc:¬cap=i:=aZ;have aJs:(i:Int)<=cap:=aZ;clear y zh r5 r6 r2 H L dM hb2 ht2 HC;go_wp2;go_ret;obtain⟨C,f1,f2,f3⟩:=HF.aX;exact⟨_,rfl,C,f1,f2,rfl,kp,f3⟩
theorem WG s a base g w(h:BX base g s w)(X:Q s.prom<=1000000)(N:base<=Z (D w)) :
 aK prog 145 #[aj (I ⟨g,0,U⟩),di a] w λe w'=>e=ak (au #[])/\BX base g ⟨s.life,s.list,kK s.prom a,s.ab⟩ w'/\aN base w w':=by
 obtain⟨vl,vp,va,h⟩:=h
 have C:=bn.new w 42 #[G J a.1,G E a.2.1,G E a.2.2]
 have k1:=C.cC
 go_in
 go_upto_region 1 with fail
 have y:=h.st k1
 generalize w.alloc _=L at *
 generalize Z (D w)=g0 at C⊢
 have q:=y.blk.cell
 have z:=y.blk.frozen
 obtain⟨css,Y,B,A⟩:=y.p
 have T:=aY (arN s.prom a g0 base vp css L Y B (λW u=>A W (u.more λk e=>aJ e)) C X)
 have t:=aY y
 have HE:=aY A
 go_wp2_with fail
 refine T.aX.mono ?_
 rintro e S⟨v',tM,rfl,ho,B,O,gg,A⟩
 have j:oI vp L S:=bf.gy gg λ_ h=>h
 have M:=t.aX.aa3 j (v':=v') ⟨tM,ho,B,λW u=>A W (HE.aX W ((j.more λ_ h=>aJ h).iA u λk _ h=>by rwa [O]at h))⟩ λb e=>aI (O▸e)
 have H:=λb=>(t.aX.sep b).2.1
 have R:=t.aX.blk.cA j λe=>(H g e).2.1 rfl
 have V:aN base w (aV S ⟨g,2,U⟩ v'):=((k1.mono N).trans (j.low (λk e=>(H k e).1) (cI N k1.size))).setCell t.aX.low _
 have q:=R.cell
 have z:=R.frozen
 have HH:=aY M
 obtain⟨A',c',rfl⟩:=M.p.slice
 go_wp2
 go_end0
 exact⟨rfl,⟨_,_,_,HH.aX⟩,V⟩
def aa4(g:Nat)(vl vp va:aQ)(k:Nat):Prop:=k=g∨aW vl=I k∨aW vp=I k∨aW va=I k
structure sw(base g gs gr:Nat)(s:fe)(r:Rec)(vl vp va vf ve:aQ)(w:aP):Prop where
 st:gA base g s vl vp va w
 bs:bn w gs 175 #[aj (I ⟨g,0,U⟩)]
 br:bn w gr 171 (gP r vf ve)
 en:Fx (aa4 g vl vp va) (λW=>fc r.e (av (bQ r.e vf ve)) W) w
 low:base<=Z (D w)
 sz:Q s.list<=900000/\Q s.prom<=900000/\Q s.ab<=900000
 sm:fX r.e
def FV(base g:Nat)(s:fe)(o:Option fe)(w:aP)(e:Ending)(w':aP):Prop:=e=ak (ar o.isSome)/\BX base g (o.getD s) w'/\aN base w w'
section
variable {base g gs gr:Nat} {s:fe} {r:Rec} {vl vp va vf ve:aQ} {w w' W:aP} {o:Option fe} {t:fe}
theorem sw.k(h:sw base g gs gr s r vl vp va vf ve w)(k:K w W):sw base g gs gr s r vl vp va vf ve W :=
 ⟨h.st.st k,h.bs.bF k,h.br.bF k,h.en.k k,cI h.low k.size,h.sz,h.sm⟩
theorem sw.up{X}(h:sw base g gs gr s r vl vp va vf ve w)(j:¬X g/\¬X gs/\¬X gr):∀W,bf X w W->(∀i,W.cell? ⟨g,i,U⟩=(dY s vl vp va)[i]?)/\(∀i,W.cell? ⟨gs,i,U⟩=#[aj (I ⟨g,0,U⟩)][i]?)/\∀i,W.cell? ⟨gr,i,U⟩=(gP r vf ve)[i]? :=
 λ_ u=>⟨(h.st.blk.cA u j.1).cell,(h.bs.cA u j.2.1).cell,(h.br.cA u j.2.2).cell⟩
theorem sw.q(h:sw base g gs gr s r vl vp va vf ve w) W(k:K w W):(∀i,W.cell? ⟨g,i,U⟩=(dY s vl vp va)[i]?)/\(∀i,W.cell? ⟨gs,i,U⟩=#[aj (I ⟨g,0,U⟩)][i]?)/\∀i,W.cell? ⟨gr,i,U⟩=(gP r vf ve)[i]? :=
 h.up (X:=λ_=>False) ⟨id,id,id⟩ W (bf.bS k _)
theorem B4.no(e:o=U)(h:gA base g s vl vp va w')(b:aN base w w'):FV base g s o w (ak (ar az)) w':=by subst e;exact⟨rfl,⟨_,_,_,h⟩,b⟩
theorem B4.yes(e:o=I t)(h:BX base g t w')(b:aN base w w'):FV base g s o w (ak (ar aA)) w':=by subst e;exact⟨rfl,h,b⟩
end
theorem axb{base g A gr s r vl vp va vf ve} w(h:sw base g A gr s r vl vp va vf ve w) :
 aK prog 141 #[aj (I ⟨gr,0,U⟩),aj (I ⟨A,0,U⟩)] w λe w'=>FV base g s (BV s r) w e w':=by
 have B:Hid (BV s r=if r.n<=s.life then U else I ⟨r.n,s.list,s.prom,s.ab⟩):=aY rfl
 generalize BV s r=R at *
 have qs:=h.q
 have H:=aY h
 go_in
 go_upto_region 1 with fail
 refine eQ 7 ?_
 iterate 7 refine bA.i ?_
 intro V W kW hA
 simp only[bU,bZ,dx,bM,Nat.reduceAdd]at hA
 refine bJ.h ?_
 have t:=aY (H.aX.k kW)
 have y:=kW.mono H.aX.low
 obtain⟨M,C,L⟩:=qs W kW
 have z:=t.aX.st.blk.frozen
 by_cases j:r.n<=s.life
 ·rw[decide_eq_true j];go_wp2;go_ret;exact B4.no (by rw[B.aX,bT j]) t.aX.st y
 ·rw[decide_eq_false j];go_wp2;go_ret;exact B4.yes (by rw[B.aX,bO j]) ⟨_,_,_,t.aX.st.aA1 r.n⟩ (y.setCell H.aX.st.low _)
theorem axc{base g y gr s r vl vp va vf ve} w(h:sw base g y gr s r vl vp va vf ve w) :
 aK prog 149 #[aj (I ⟨y,0,U⟩),aj (I ⟨gr,0,U⟩)] w λe w'=>FV base g s (BW s r) w e w':=by
 have z:Hid (BW s r=if dI s.prom (jW r)then I ⟨s.life,s.list,kK s.prom (jW r),s.ab⟩else U):=aY rfl
 generalize BW s r=R at *
 have qs:=aB h.q (show jW r=(r.br,r.life,r.dN)from rfl)
 have H:=aY h
 have C:=aY λW (kW:K w W)=>Mv s (jW r) _ W (h.st.st kW).pF YH
 go_in
 go_upto_region 1 with fail
 generalize dI s.prom (jW r)=B at *
 refine eQ 7 ?_
 iterate 5 refine bA.i ?_
 refine bA.v C.aX ?_
 refine bA.i ?_
 intro V W kW hA
 simp only[bU,bZ,dx,bM,Nat.reduceAdd]at hA
 refine bJ.h ?_
 have j:=aY (H.aX.k kW)
 have t:=kW.mono H.aX.low
 have M:=aY (WG s (jW r) base g W ⟨_,_,_,j.aX.st⟩ (by have:=H.aX.sz;omega) j.aX.low)
 obtain⟨T,N,S⟩:=qs.1 W kW
 cases B
 ·go_wp2;go_ret;exact B4.no z.aX j.aX.st t
 ·go_wp2_with fail
  apply bN M.aX;rintro O⟨A,hb⟩;have L:=aY A;go_wp2;go_ret;exact B4.yes z.aX L.aX (t.trans hb)
section
variable {base g gs gr:Nat} {s:fe} {r:Rec} {vl vp va vf ve:aQ} {w W:aP}
theorem sw.ns(h:sw base g gs gr s r vl vp va vf ve w){v}(t:v=vl∨v=vp∨v=va):¬aW v=I g/\¬aW v=I gs/\¬aW v=I gr:=by
 have key:∀ {b e cs},bn w b e cs->aW v=I b->e=128∨e=42:=λhb j=>by
  rcases t with rfl|rfl|rfl
  ·exact aI ((h.st.l.own j).2.2.elim λ_ k=>hb.js k)
  ·exact aI ((h.st.p.own j).2.2.elim λ_ k=>hb.js k)
  ·exact aJ ((h.st.a.own j).2.2.elim λ_ k=>hb.js k)
 exact⟨λe=>absurd (key h.st.blk e) bC,λe=>absurd (key h.bs e) bC,λe=>absurd (key h.br e) bC⟩
theorem sw.far(h:sw base g gs gr s r vl vp va vf ve w){v}(A:v=vl∨v=vp∨v=va)(u:oI v w W) i x{b e cs}(hb:bn w b e cs)(j:e≠128/\e≠42/\e≠61):bn (aV W ⟨g,i,U⟩ x) b e cs:=by
 have z:¬aW v=I b:=λt=>by
  rcases A with rfl|rfl|rfl
  ·exact j.1 ((h.st.l.own t).2.2.elim λ_ k=>hb.js k)
  ·exact j.1 ((h.st.p.own t).2.2.elim λ_ k=>hb.js k)
  ·exact j.2.1 ((h.st.a.own t).2.2.elim λ_ k=>hb.js k)
 exact (hb.cA u z).far (λy=>j.2.2 (hb.js (by rw[y];exact h.st.blk))) x
theorem sw.aa5(h:sw base g gs gr s r vl vp va vf ve w){v}(j:v=vl∨v=vp∨v=va)(u:oI v w W) i x:aN base w (aV W ⟨g,i,U⟩ x) :=
 (u.low (λk e=>by have:=h.st.sep k;rcases j with rfl|rfl|rfl <;> grind) h.low).setCell h.st.low _
end
theorem axd{base g O gr s r vl vp va vf ve} w(h:sw base g O gr s r vl vp va vf ve w) :
 aK prog 148 #[aj (I ⟨O,0,U⟩),aj (I ⟨gr,0,U⟩)] w λe w'=>FV base g s (zD s r) w e w':=by
 have B:Hid (zD s r=if dI s.list (jW r)then U else if fD s.ab (jW r)then U else I ⟨s.life,s.list,kK s.prom (jW r),s.ab++[jW r]⟩):=aY rfl
 generalize zD s r=R at *
 have qs:=aB h.q (show jW r=(r.br,r.life,r.dN)from rfl)
 have H:=aY h
 have C1:=aY λW (kW:K w W)=>FH s (jW r) _ W (h.st.st kW).pF YH
 have C2:=aY λW (kW:K w W)=>JU s (jW r) _ W (h.st.st kW).pF YH
 generalize dI s.list (jW r)=j at *
 generalize fD s.ab (jW r)=L at *
 go_in
 go_upto_region 1 with fail
 rcases (show (j=aA∨j=az/\L=aA)∨j=az/\L=az by grind)with (rfl|⟨rfl,rfl⟩)|⟨rfl,rfl⟩
 all_goals
  refine eQ 14 ?_
  iterate 14 first|refine bA.i ?_|refine bA.v C1.aX ?_|refine bA.v C2.aX ?_
  intro V W kW hA
  simp only[bU,bZ,dx,bM,Nat.reduceAdd]at hA
  refine bJ.h ?_
  have HW:=aY (H.aX.k kW)
  have A:=kW.mono H.aX.low
  obtain⟨q1,Y,q3⟩:=qs.1 W kW
 iterate 2
  (go_wp2
   go_ret
   exact B4.no B.aX HW.aX.st A)
 generalize W=w1 at *
 go_upto_region 3 with fail
 have ns:=HW.aX.ns (aJ (aJ rfl))
 have qs:=aB (HW.aX.up (X:=λk=>aW va=I k) ns) (show jW r=(r.br,r.life,r.dN)from rfl)
 refine FB 11 8 s.ab va (jW r) 53 wg [([],[]),([],[]),([1],[(18,1)]),([2],[(19,2)]),([3],[(20,3)]),([],[]),([5],[(22,5)]),([6],[(23,6)]),([4,7],[(21,4),(24,7)]),([0],[(17,0)]),([9],[(26,9)]),([10,8],[(27,10),(25,8)])] 32 HW.aX.st.a HW.aX.low (by have:=HW.aX.sz;omega) ?_
 iterate 7 refine bA.i ?_
 refine bA.Gg (S:=dJ) (N:=λk=>jT base g vl vp va k∨aW va=I k) (Z (D w1)) wg (jW r) (λ_ h=>h.size) (λb hb=>⟨aJ hb,(HW.aX.st.a.own hb).2.1⟩) (λV W hW hp=>?_) ?_
 ·simp only[dE,bU,bZ,dA,dB,bM]at hp;show vX _ _ _ (V 6) _;rw[hp.1];exact⟨rfl,λ_ _=>rfl⟩
 refine bA.s ?_
 iterate 2 refine bA.i ?_
 refine⟨λ_ _=>trivial,λV W hW hp=>?_,λV W hW T hv hA=>?_⟩
 ·exact Km
 simp only[bU,bZ,dx,bM,Nat.reduceAdd]at hA
 have C:=HW.aX.st.aDT hW T hv
 obtain⟨y,t,M⟩:=T.slice
 rw[M]at C
 generalize Q (s.ab++[jW r])=z at *
 have hA:=aB M hA
 have hb:=HW.aX.st.blk.cA hW ns.1
 have qs:=aB hb.cell hb.frozen
 refine bJ.s ?_
 refine bJ.h ?_
 have Y:=(HW.aX.far (aJ (aJ rfl)) hW 3 (F y z t) HW.aX.bs bC).cell
 have q3:=(HW.aX.far (aJ (aJ rfl)) hW 3 (F y z t) HW.aX.br bC).cell
 have Pe:=A.trans (HW.aX.aa5 (aJ (aJ rfl)) hW 3 (F y z t))
 have C3:=aY (WG ⟨s.life,s.list,s.prom,s.ab++[jW r]⟩ (jW r) base g _ ⟨_,_,_,C⟩ (by show Q s.prom<=1000000;have:=HW.aX.sz;omega) aja)
 generalize ax W _ _=w5 at *
 go_wp2_with fail
 apply bN C3.aX
 rintro w3⟨hs,hb⟩
 have HS:=aY hs
 go_wp2
 go_ret
 exact B4.yes B.aX HS.aX (Pe.trans hb)
theorem axe{base g gs gr s r vl vp va vf ve} w(h:sw base g gs gr s r vl vp va vf ve w) :
 aK prog 146 #[aj (I ⟨gr,0,U⟩),aj (I ⟨gs,0,U⟩)] w λe w'=>FV base g s (zC s r) w e w':=by
 have L:Hid (zC s r=if dI s.list (bB r.e)then U else if dI s.prom (bB r.e)then U else if fD s.ab (bB r.e)then U else I ⟨s.life,s.list,s.prom++[r.e],s.ab⟩):=aY rfl
 generalize zC s r=R at *
 have:=h.sz
 have hlow:=h.low
 have C1:=aY λW (kW:K w W)=>FH s (bB r.e) _ W (h.st.st kW).pF aZ
 have C2:=aY λW (kW:K w W)=>Mv s (bB r.e) _ W (h.st.st kW).pF aZ
 have C3:=aY λW (kW:K w W)=>JU s (bB r.e) _ W (h.st.st kW).pF aZ
 generalize dI s.list (bB r.e)=y at *
 generalize dI s.prom (bB r.e)=B at *
 generalize fD s.ab (bB r.e)=M at *
 have A:=bn.new w 42 #[G J r.e.br,G E r.e.life,G E r.e.dN]
 have k1:=A.cC
 have H:=aY (h.k k1)
 have q:=h.br.cell
 go_in
 go_upto_region 2 with fail
 generalize w.alloc _=z at *
 generalize Z (D w)=gi at A⊢
 have qs:=aB H.aX.q (aB A.cells (show bB r.e=(r.e.br,r.e.life,r.e.dN)from rfl))
 rcases (show (y=aA∨y=az/\B=aA∨y=az/\B=az/\M=aA)∨y=az/\B=az/\M=az by grind)with (rfl|⟨rfl,rfl⟩|⟨rfl,rfl,rfl⟩)|⟨rfl,rfl,rfl⟩
 all_goals
  refine eQ 19 ?_
  iterate 19 first|refine bA.i ?_|refine bA.v (λW k=>C1.aX W (k1.tr k)) ?_|refine bA.v (λW k=>C2.aX W (k1.tr k)) ?_|refine bA.v (λW k=>C3.aX W (k1.tr k)) ?_
  intro V W kW hA
  simp only[bU,bZ,dx,bM,Nat.reduceAdd]at hA
  refine bJ.h ?_
  have j:=aY (H.aX.k kW)
  have C:=(k1.tr kW).mono hlow
  obtain⟨q1,q2,q3⟩:=qs.1 W kW
 iterate 3
  (go_wp2
   go_ret
   exact B4.no (L.aX.trans cY) j.aX.st C)
 generalize W=z at *
 go_upto_region 4 with fail
 have ns:=j.aX.ns (v:=vp) (aJ (aI rfl))
 have T:∀k,(jT base g vl vp va k∨aW vp=I k)->k<Z (D z):=λk h=>h.elim (j.aX.st.lt j.aX.low k) λh=>(j.aX.st.p.own h).2.1
 have qs:=j.aX.up (X:=λk=>aW vp=I k) ns
 refine FB 12 9 s.prom vp r.e 59 rz [([],[]),([],[]),([1],[(27,1)]),([2],[(28,2)]),([3],[(29,3)]),([],[]),([5],[(31,5)]),([6],[(32,6)]),([7],[(33,7)]),([4,8],[(30,4),(34,8)]),([0],[(26,0)]),([10],[(36,10)]),([11,9],[(37,11),(35,9)])] 38 j.aX.st.p j.aX.low aZ ?_
 iterate 7 refine bA.i ?_
 refine bA.c (vX (λk=>jT base g vl vp va k∨aW vp=I k) cF r.e) (λ_ _ _ h k=>h.mut k λ_ h=>aJ h) (λW' u=>(Q4 r.e _ W' (j.aX.en W' (u.more λk h=>aJ (aJ (aI h)))) j.aX.sm).mono λe w' ⟨v,e1,ho,k⟩=>⟨v,e1,Sk ho λk h=>cQ (T k h) u.size,k⟩) ?_
 refine bA.Gg (S:=cF) (N:=λk=>jT base g vl vp va k∨aW vp=I k) (Z (D z)) rz r.e (λ_ h=>h.size) (λb hb=>⟨aJ hb,T b (aJ hb)⟩) (λV W t hp=>?_) ?_
 ·exact Sm
 refine bA.s ?_
 iterate 2 refine bA.i ?_
 refine⟨λ_ _=>trivial,λV W t hp=>?_,λV W t hO hv hA=>?_⟩
 ·exact Km
 simp only[bU,bZ,dx,bM,Nat.reduceAdd]at hA
 have O:=j.aX.st.aa3 t hO hv
 obtain⟨A9,c9,Y⟩:=hO.slice
 rw[Y]at O
 generalize Q (s.prom++[r.e])=n9 at *
 have hA:=aB Y hA
 have hb:=j.aX.st.blk.cA t ns.1
 have qs:=aB hb.cell hb.frozen
 refine bJ.s ?_
 refine bJ.h ?_
 have Pe:=C.trans (j.aX.aa5 (aJ (aI rfl)) t 2 (F A9 n9 c9))
 have HS:=aY O
 go_wp2
 go_ret
 exact B4.yes L.aX ⟨_,_,_,HS.aX⟩ Pe
theorem axf{base g gs gr s r vl vp va vf ve} w(h:sw base g gs gr s r vl vp va vf ve w) :
 aK prog 142 #[aj (I ⟨gr,0,U⟩),aj (I ⟨gs,0,U⟩)] w λe w'=>FV base g s (zB s r) w e w':=by
 have z:Hid (zB s r=if ¬r.n=Q s.list then U else if dI s.list (bB r.e)then U else if fD s.ab (bB r.e)then U else I ⟨s.life,s.list++[r.e],kK s.prom (bB r.e),s.ab⟩):=aY rfl
 generalize zB s r=R at *
 obtain⟨j,cl,rfl⟩:=h.st.l.slice
 have:=h.sz
 have hlow:=h.low
 have C1:=aY λW (kW:K w W)=>FH s (bB r.e) _ W (h.st.st kW).pF aZ
 have C2:=aY λW (kW:K w W)=>JU s (bB r.e) _ W (h.st.st kW).pF aZ
 generalize dI s.list (bB r.e)=y at *
 generalize fD s.ab (bB r.e)=T at *
 have C:=bn.new w 42 #[G J r.e.br,G E r.e.life,G E r.e.dN]
 have k1:=C.cC
 have H:=aY (h.k k1)
 have q:=h.br.cell
 go_in
 go_upto_region 2 with fail
 generalize w.alloc _=B at *
 generalize Z (D w)=gi at C⊢
 have hwr:E.wrap (Q s.list:Int)=Q s.list:=by rw[IntKind.wrap_u64];omega
 obtain⟨t,Jb⟩:∃b,((r.n:Int) != (Q s.list:Int))=b:=⟨_,rfl⟩
 replace z:=aY (show R=if t=aA then U else if y=aA then U else if T=aA then U else I ⟨s.life,s.list++[r.e],kK s.prom (bB r.e),s.ab⟩ by rw[z.aX,<- Jb];by_cases h:r.n=Q s.list <;> simp[h,Int.ofNat_inj])
 have qs:=aB H.aX.q (aB C.cells (aB hwr (aB (show bB r.e=(r.e.br,r.e.life,r.e.dN)from rfl) Jb)))
 rcases (show (t=aA∨t=az/\y=aA∨t=az/\y=az/\T=aA)∨t=az/\y=az/\T=az by grind)with (rfl|⟨rfl,rfl⟩|⟨rfl,rfl,rfl⟩)|⟨rfl,rfl,rfl⟩
 all_goals
  refine eQ 23 ?_
  iterate 23 first|refine bA.i ?_|refine bA.v (λW k=>C1.aX W (k1.tr k)) ?_|refine bA.v (λW k=>C2.aX W (k1.tr k)) ?_
  intro V W kW hA
  simp only[bU,bZ,dx,bM,Nat.reduceAdd]at hA
  refine bJ.h ?_
  have HW:=aY (H.aX.k kW)
  have Y:=(k1.tr kW).mono hlow
  obtain⟨q1,q2,q3⟩:=qs.1 W kW
  have O:=C.bF kW
 iterate 3
  (go_wp2
   go_ret
   exact B4.no (z.aX.trans cY) HW.aX.st Y)
 generalize W=B at *
 go_upto_region 4 with fail
 have ns:=HW.aX.ns (v:=(F j (Q s.list) cl)) (aI rfl)
 have hN:∀k,(jT base g (F j (Q s.list) cl) vp va k∨aW (F j (Q s.list) cl)=I k)->k<Z (D B):=λk h=>h.elim (HW.aX.st.lt HW.aX.low k) λh=>(HW.aX.st.l.own h).2.1
 have qs:=HW.aX.up (X:=λk=>aW (F j (Q s.list) cl)=I k) ns
 refine FB 12 9 s.list (F j (Q s.list) cl) r.e 59 rz [([],[]),([],[]),([1],[(31,1)]),([2],[(32,2)]),([3],[(33,3)]),([],[]),([5],[(35,5)]),([6],[(36,6)]),([7],[(37,7)]),([4,8],[(34,4),(38,8)]),([0],[(30,0)]),([10],[(40,10)]),([11,9],[(41,11),(39,9)])] 45 HW.aX.st.l HW.aX.low aZ ?_
 iterate 7 refine bA.i ?_
 refine bA.c (vX (λk=>jT base g (F j (Q s.list) cl) vp va k∨aW (F j (Q s.list) cl)=I k) cF r.e) (λ_ _ _ h k=>h.mut k λ_ h=>aJ h) (λW' u=>(Q4 r.e _ W' (HW.aX.en W' (u.more λk h=>aJ (aI h))) HW.aX.sm).mono λe w' ⟨v,e1,ho,k⟩=>⟨v,e1,Sk ho λk h=>cQ (hN k h) u.size,k⟩) ?_
 refine bA.Gg (S:=cF) (N:=λk=>jT base g (F j (Q s.list) cl) vp va k∨aW (F j (Q s.list) cl)=I k) (Z (D B)) rz r.e (λ_ h=>h.size) (λb hb=>⟨aJ hb,hN b (aJ hb)⟩) (λV W hW hp=>?_) ?_
 ·exact Sm
 refine bA.s ?_
 iterate 2 refine bA.i ?_
 refine⟨λ_ _=>trivial,λV W hW hp=>?_,λV W hW hO hv hA=>?_⟩
 ·exact Km
 simp only[bU,bZ,dx,bM,Nat.reduceAdd]at hA
 have hS:=HW.aX.st.KU hW hO hv
 obtain⟨L,A,e9⟩:=hO.slice
 rw[e9]at hS
 generalize Q (s.list++[r.e])=M at *
 have hA:=aB e9 hA
 have hb:=HW.aX.st.blk.cA hW ns.1
 have qs:=aB hb.cell hb.frozen
 refine bJ.s ?_
 refine bJ.h ?_
 have Pe:=Y.trans (HW.aX.aa5 (aI rfl) hW 1 (F L M A))
 have q2:=(HW.aX.far (aI rfl) hW 1 (F L M A) HW.aX.bs bC).cell
 have q3:=(HW.aX.far (aI rfl) hW 1 (F L M A) HW.aX.br bC).cell
 have:=((O.cA hW λe=>absurd ((HW.aX.st.l.own e).2.2.elim λ_ k=>O.js k) bC).far (p:=⟨g,1,U⟩) (λe=>absurd (O.js (show bn B gi 61 _ by rw[show gi=g from e];exact HW.aX.st.blk)) bC) (F L M A)).cell
 have C3:=aY (WG ⟨s.life,s.list++[r.e],s.prom,s.ab⟩ (bB r.e) base g _ ⟨_,_,_,hS⟩ bG aja)
 generalize ax W _ _=w5 at *
 go_wp2_with fail
 apply bN C3.aX
 rintro w3⟨hs,hb⟩
 have HS:=aY hs
 go_wp2
 go_ret
 exact B4.yes z.aX HS.aX (Pe.trans hb)
theorem axg{s r}(h:fK r=az):oD s r=(s,110):=by simp[oD,h]
def anV(s:fe):Option fe->fe×Int
 | none=>(s,160)
 | some t=>(t,0)
theorem ahn{s r o}(h:fK r=aA)(e:fR s r=o):oD s r=anV s o:=by grind [fK,fR,oD,anV]
theorem aDc{s r}(h:r.kind=1):fR s r=BV s r:=by simp[fR,h]
theorem aDd{s r}(h:r.kind=2):fR s r=zB s r:=by simp[fR,h]
theorem aDe{s r}(h:r.kind=3):fR s r=zC s r:=by simp[fR,h]
theorem aDf{s r}(h:r.kind=4):fR s r=zD s r:=by simp[fR,h]
theorem aDg{s r}(h:r.kind=5):fR s r=BW s r:=by simp[fR,h]
theorem azl{r}(h:fK r=aA):r.kind=1∨r.kind=2∨r.kind=3∨r.kind=4∨r.kind=5:=by
 grind [fK]
structure Pf(base g:Nat)(s:fe)(r:Rec)(vl vp va v:aQ)(w:aP):Prop where
 st:gA base g s vl vp va w
 rc:Fx (aa4 g vl vp va) (λW=>si r v W) w
 low:base<=Z (D w)
 sz:Q s.list<=900000/\Q s.prom<=900000/\Q s.ab<=900000
 sm:fX r.e
 fit:lH r
theorem Pf.onV{base g j gr s r vl vp va vf ve w}(h:Pf base g s r vl vp va (av (gP r vf ve)) w){W}(k:K w W)(z:bn W j 175 #[aj (I ⟨g,0,U⟩)])(A:bn W gr 171 (gP r vf ve)) :
 sw base g j gr s r vl vp va vf ve W:=by
 refine⟨h.st.st k,z,A,(h.rc.k k).mono λW' h=>?_,cI h.low k.size,h.sz,h.sm⟩
 obtain⟨B,C,e,t,y⟩:=h
 injection e with e
 have e:=congrArg Array.toList e
 simp at e
 obtain⟨rfl,rfl⟩:=e
 exact⟨_,_,rfl,t,y⟩
theorem aho{base g s r vl vp va v} w(h:Pf base g s r vl vp va v w) :
 aK prog 92 #[aj (I ⟨g,0,U⟩),v] w λe w'=>e=ak (G J (oD s r).2)/\BX base g (oD s r).1 w'/\aN base w w':=by
 obtain⟨vf,ve,rfl,-,-⟩:=h.rc.now
 have H:=aY h
 have O:=aY λW (k:K w W)=>avw r (av (gP r vf ve)) W (h.rc.at k) h.fit
 have y:=(bn.new w 175 #[aj (I ⟨g,0,U⟩)]).alloc (aq (gP r vf ve) 171)
 have t:=bn.new (aU w (aq #[aj (I ⟨g,0,U⟩)] 175)) 171 (gP r vf ve)
 have j:=K.lK w (aq #[aj (I ⟨g,0,U⟩)] 175) (aq (gP r vf ve) 171)
 rw[World.size_alloc]at t
 have:=@run_makeMap prog
 have B:∀W:aP,(zeroValue 22).run prog W=.ok .nilFunc W:=λW=>dz
 go_in
 go_wp2_with fail
 generalize ay (ay w _) _=R at *
 generalize Y:Z (D w)=V at *
 refine (O.aX R j).mono ?_
 rintro e A⟨vb,rfl,-,M⟩
 replace j:=j.tr M
 replace y:=y.bF M
 replace t:=t.bF M
 cases hok:fK r
 ·rw[show wR r=110 by simp[wR,hok]];have HQ:=aY (axg (s:=s) hok);have HS:=aY (H.aX.st.st j);have L:=j.mono H.aX.low;go_wp2;go_ret;exact⟨pM,by rw[HQ.aX];exact⟨_,_,_,HS.aX⟩,L⟩
 rw[show wR r=0 by simp[wR,hok]]
 have N:=aY hok
 have z:=EN.new A
 have:=t.lt
 replace y:=y.alloc (.map #[] 0)
 replace t:=t.alloc (.map #[] 0)
 replace j:=j.al (.map #[] 0)
 go_wp2_with (with_reducible refine yT _ rfl (.tmp 17) (.const (G J 1)) (.tmp 18) 229 rfl 3 22 underlying229 underlying3 (Z (D A)) _ rfl z 1 rfl _ rfl rfl ?_)
 intro W z hg
 replace j:K w W:=j.trans (mN hg aZ j.size)
 replace y:=y.grown hg cG
 replace t:=t.grown hg cG
 go_wp2_with (with_reducible refine yT _ rfl (.tmp 17) (.const (G J 2)) (.tmp 19) 229 rfl 3 22 underlying229 underlying3 (Z (D A)) _ rfl z 2 rfl _ rfl rfl ?_)
 intro W z hg
 replace j:K w W:=j.trans (mN hg aZ j.size)
 replace y:=y.grown hg cG
 replace t:=t.grown hg cG
 go_wp2_with (with_reducible refine yT _ rfl (.tmp 17) (.const (G J 3)) (.tmp 20) 229 rfl 3 22 underlying229 underlying3 (Z (D A)) _ rfl z 3 rfl _ rfl rfl ?_)
 intro W z hg
 replace j:K w W:=j.trans (mN hg aZ j.size)
 replace y:=y.grown hg cG
 replace t:=t.grown hg cG
 go_wp2_with (with_reducible refine yT _ rfl (.tmp 17) (.const (G J 4)) (.tmp 21) 229 rfl 3 22 underlying229 underlying3 (Z (D A)) _ rfl z 4 rfl _ rfl rfl ?_)
 intro W z hg
 replace j:K w W:=j.trans (mN hg aZ j.size)
 replace y:=y.grown hg cG
 replace t:=t.grown hg cG
 go_wp2_with (with_reducible refine yT _ rfl (.tmp 17) (.const (G J 5)) (.tmp 22) 229 rfl 3 22 underlying229 underlying3 (Z (D A)) _ rfl z 5 rfl _ rfl rfl ?_)
 intro W z hg
 replace j:K w W:=j.trans (mN hg aZ j.size)
 replace y:=y.grown hg cG
 replace t:=t.grown hg cG
 have:W.cell? ⟨V+1,0,U⟩=I (G J r.kind):=t.cell 0
 have C:=aY (H.aX.onV j y t)
 have L:=j.mono H.aX.low
 obtain⟨f,c1,c2,hf,hlk,T⟩:∃(f:Nat) (c1 c2:aQ),(∀args W,(callFunc f args).run prog W=.ok (.enter f args) W)/\(Instr.lookup 229 (.map (I (Z (D A)))) (G J r.kind) aA).run prog W=.ok (au #[Value.func (Fn.func f) #[] #[c1,c2],ar aA]) W/\Hid (aK prog f #[c1,c2] W (FV base g s (fR s r) W)):=by
  rcases azl N.aX with hk|hk|hk|hk|hk <;> rw[hk]
  ·exact⟨_,_,_,λ_ _=>cY,xI underlying229 underlying3 (B W) z 1,by rw[aDc hk];exact aY (axb W C.aX)⟩
  ·exact⟨_,_,_,λ_ _=>cY,xI underlying229 underlying3 (B W) z 2,by rw[aDd hk];exact aY (axf W C.aX)⟩
  ·exact⟨_,_,_,λ_ _=>cY,xI underlying229 underlying3 (B W) z 3,by rw[aDe hk];exact aY (axe W C.aX)⟩
  ·exact⟨_,_,_,λ_ _=>cY,xI underlying229 underlying3 (B W) z 4,by rw[aDf hk];exact aY (axd W C.aX)⟩
  ·exact⟨_,_,_,λ_ _=>cY,xI underlying229 underlying3 (B W) z 5,by rw[aDg hk];exact aY (axc W C.aX)⟩
 have HQ:=aY (ahn (s:=s) N.aX rfl)
 go_wp2_with fail
 refine T.aX.mono ?_
 rintro e w9⟨rfl,S,hb⟩
 have HS:=aY S
 generalize fR s r=o at *
 have rh:=L.trans hb
 cases o
 ·exact ajb
 ·exact ajb
theorem agp{l A w}(h:xu dJ l A w):Reads w (Z (D w)) 3 A (Q l) (l.flatMap gY):=by
 obtain⟨css,t,j⟩:=h;have:css=l.map gY:=by
  refine List.ext_getElem (by simpa using t.1) λi y z=>?_
  rw[List.getElem_map];exact t.2 i bG y
 rw[this,ahj]at j;exact j
theorem Sn(l:List cB):∀u∈l.flatMap gY,u.oneCell'=true:=by intro u t;obtain⟨a,-,j⟩:=List.mem_flatMap.1 t;simp at j;rcases j with rfl|rfl|rfl <;> rfl
theorem gA.lower{base base' g s vl vp va W}(h:gA base g s vl vp va W)(hb:base'<=base):gA base' g s vl vp va W:=by
 have j:∀b,jT base' g vl vp va b->jT base g vl vp va b:=λb h=>by grind [jT]
 exact⟨h.blk,cI hb h.low,(h.l.less j).low hb,(h.p.less j).low hb,(h.a.less j).low hb,h.ne⟩
def Ov(base:Nat)(s:fe)(vl vp va:aQ)(W:aP):Prop:=∀W',bf (λk=>k<base) W W'->gA base (Z (D W')) s vl vp va (aU W' (aq (dY s vl vp va) 61))
theorem gA.r{base g s vl vp va W}(h:gA base g s vl vp va W)(hb:base<=Z (D W)):Ov base s vl vp va W:=λW' u=>by
 have j:=K.new W' (aq (dY s vl vp va) 61);have hz:=u.size;have t:∀b,b<Z (D W)->jT base (Z (D W')) vl vp va b->jT base g vl vp va b:=λb hb h=>by unfold jT at *;grind
 have y:=h.l.blk;have hp:=h.p.blk;have z:=h.a.blk;exact⟨bn.new _ _ _,cI hb hz,(h.l.to u (λ_ h=>aI h) (λk e _=>by have:=y k e;omega) λb hb h=>aI (t b hb h)).st j,(h.p.to u (λ_ h=>aI h) (λk e _=>by have:=hp k e;omega) λb hb h=>aI (t b hb h)).st j,(h.a.to u (λ_ h=>aI h) (λk e _=>by have:=z k e;omega) λb hb h=>aI (t b hb h)).st j,h.ne⟩
theorem Ov.to{base base' s vl vp va W W'}(h:Ov base s vl vp va W)(u:bf (λk=>k<base) W W')(hb:base'<=base):Ov base' s vl vp va W' :=
 λt j=>(h t (u.tr (j.more λ_ h=>cQ h hb))).lower hb
abbrev ot:Array aQ:=#[G E 0,F U 0 0,F U 0 0,F U 0 0]
def aDW(base:Nat)(v:aQ)(W:aP):Prop:=∃b,v=aj (I ⟨b,0,U⟩)/\base<=b/\bn W b 61 ot
theorem azm{P t z}(T:ir P t 42 z 3 24){ρ} s x(B:ρ s=F U 0 0){l u}(C:ρ x=u){w}(h:bw dJ l u w)(N:Q l<=1000000) base(hb:base<=Z (D w)) Y ty :
 ∃v' w',(aL ρ (bR (.call { callee:=.builtin .append,args:=#[s,x],argTypes:=#[t,t] }) ty)).run P w=.ok (.value v') w'/\bK Y base 42 dJ l v' w'/\K w w':=by
 obtain⟨A,c,rfl,L,-⟩:=h
 obtain⟨v',w',M,y,j,-,-⟩:=Hx (P:=P) w base t ty 42 z 3 24 T (F U 0 0) 0 [] (mr _ _ _ _) _ A (Q l) c _ (agp L) (Sn _) aZ hb
 exact⟨v',w',by simp only[aL,bR,resolve,invoke,builtin,Sem.run_bind,Sem.run_pure,Result.andThen_ok,List.map_toArray,lT,List.map_nil,B,C,M],⟨l.map gY,by rw[ahj];simpa [show dJ.size=3 from rfl]using y,bq,λW _=>RD l W⟩,⟨j.os,j.tape,j.output,j.size,λi H=>j.block i H (by simp[Value.ownBlock])⟩⟩
theorem ath s v w(h:pF s v w)(gG:∀x∈s.list,fX x)(hsp:∀x∈s.prom,fX x)(hz:Q s.list<=900000/\Q s.prom<=900000/\Q s.ab<=900000) :
 aK prog 317 #[v] w λe w'=>∃vl vp va,e=ak (av (dY s vl vp va))/\Ov (Z (D w)) s vl vp va w'/\K w w':=by
 obtain⟨vl,vp,va,rfl,hl,hp,ha⟩:=h
 have HA:=aY ha
 obtain⟨Al,cl,rfl,hl,-⟩:=hl
 obtain⟨Ap,cp,rfl,hp,-⟩:=hp
 obtain⟨Aa,ca,rfl⟩:=bD ha
 have fG:=(bn.new w 61 (dY s (F Al (Q s.list) cl) (F Ap (Q s.prom) cp) (F Aa (Q s.ab) ca))).alloc (aq ot 61)
 have fH:=bn.new (aU w (aq (dY s (F Al (Q s.list) cl) (F Ap (Q s.prom) cp) (F Aa (Q s.ab) ca)) 61)) 61 ot
 have T:=K.lK w (aq (dY s (F Al (Q s.list) cl) (F Ap (Q s.prom) cp) (F Aa (Q s.ab) ca)) 61) (aq ot 61)
 rw[World.size_alloc]at fH
 have gG:=aY gG
 have hsp:=aY hsp
 have HL:=aY hl
 have HP:=aY hp
 go_in
 go_upto_region 1 with fail
 generalize ay (ay w _) _=w0 at *
 obtain⟨base,hbase⟩:∃b,b=Z (D w0):=⟨_,rfl⟩
 have jJ:Z (D w)+1<base:=by rw[hbase];exact fH.lt
 generalize gL:Z (D w)=gp at fG fH jJ⊢
 have qs:=fG.cells
 refine eQ 7 ?_
 iterate 4 refine bA.i ?_
 refine bA.op (λv W=>bK (λ_=>True) base 42 dJ s.ab v W) (λ_ _ _ h k=>h.st k) (λV W kW hp=>?_) ?_
 ·simp only[dE,bU,bZ,dA,dB,bM]at hp;obtain⟨v',w',hrun,h1,h2⟩:=azm (P:=prog) wg (ρ:=bP [(11,3)] _ V) (.const (F U 0 0)) (.tmp 11) rfl hp.1 (cH HA.aX (T.tr kW)) aZ base ajc (λ_=>True) 53;change eH _ _ _ ((aL (bP [(11,3)] _ V) (bR (.call { callee:=.builtin .append,args:=#[.const (F U 0 0),.tmp 11],argTypes:=#[53,53] }) 53)).run _ _);rw[hrun];exact⟨h1,h2⟩
 refine bA.op (λv W=>∃va,v=av (dY ⟨s.life,[],[],s.ab⟩ (F U 0 0) (F U 0 0) va)/\bK (λ_=>True) base 42 dJ s.ab va W) (λ_ _ _ ⟨va,e,h⟩ k=>⟨va,e,h.st k⟩) (λV W kW hp=>?_) ?_
 ·simp only[dE,bU,bZ,dA,dB,bM]at hp;obtain⟨h1,h4,-⟩:=hp;obtain⟨A4,c4,e4⟩:=h4.slice;simp[h1,e4,dC,bP,aC,eH,aL,bR,ed,go_sem];rw[<- e4];exact h4
 refine bA.op (aDW base) (λv w w' ⟨b,e,h1,h2⟩ k=>⟨b,e,h1,h2.bF k⟩) (λV W kW _=>?_) ?_
 ·simp[dC,eH,aL,bR,go_sem];exact⟨⟨Z (D W),rfl,ajc,bn.new _ _ _⟩,(K.rf W).al _⟩
 intro V W kW hA
 simp only[bU,bZ,dx,bM,Nat.reduceAdd]at hA
 obtain⟨-,-,-,-,-,⟨va9,e5,B⟩,⟨g,e6,hg,hb⟩,-⟩:=hA
 have hA:=aB e6 e5
 obtain⟨L,H,rfl⟩:=B.slice
 have u9:bf (λk=>k=g) W (dL W g 0 [G E s.life,F U 0 0,F U 0 0,F L (Q s.ab) H]):=bf.sets (X:=λk=>k=g) rfl _ _ _
 have HS0:Hid (BX base g ⟨s.life,[],[],s.ab⟩ (dL W g 0 [G E s.life,F U 0 0,F U 0 0,F L (Q s.ab) H])):=aY ⟨_,_,_,gA.nil (Cy hb rfl) hg (B.to u9 (λ_ _=>trivial) (λk h e=>absurd ((B.own h).2.2.elim λ_ k=>k.js (e▸hb)) bC) λ_ _ _=>aI trivial)⟩
 have qq:=hb.cell
 have zz:=hb.frozen
 refine bJ.skip (dL W g 0 [G E s.life,F U 0 0,F U 0 0,F L (Q s.ab) H]) rfl (by simp[bP,aC,cK,e5,e6,aL,bR,dL,qq,zz,go_sem]) ?_
 refine bJ.h ?_
 have kk:=u9.k kW λk e=>aZ
 generalize dL _ _ _ _=W1 at *
 have:=fG.cells
 go_wp2_with fail
 go_loopw [5,17] (fun _ i W=>∃j:Nat,j<=Q s.list/\i=G J j/\Hid (BX base g ⟨s.life,s.list.take j,[],s.ab⟩ W)/\K w0 W) (fun _ i _=>Q s.list-(aO i).toNat)
 case atStart=>exact⟨0,aZ,rfl,aY ic,kk⟩
 case round =>
  obtain⟨j,hj,rfl,M,kr⟩:=hrel;by_cases hlt:j<Q s.list
  ·have cd:(j:Int)<Q s.list:=aZ;obtain⟨b1,off,cs,rfl,hcl,hrl,d0,d⟩:=eN HL.aX j hlt bC;have HT:Hid (s.list.take (j+1)=s.list.take j++[s.list[j]]):=aY bq;have hxs:=gG.aX _ (dG hlt);generalize s.list[j]=x at *;obtain⟨vf,ve,rfl,hf,he⟩:=hrl w (K.rf w);have mV:Hid (∀W,K w W->fc x (av (bQ x vf ve)) W):=aY λW k=>⟨_,_,rfl,fJ _ _ _ _ hf k,cH he k⟩
   have s6:=T.tr kr;have d0:wr.cell? ⟨b1,off+j*8,U⟩=I (G J x.kind):=d0 wr s6;have d:∀i,i<8->wr.cell? ⟨b1,off+j*8+i,U⟩=(bQ x vf ve)[i]?:=λi hi=>(d wr s6 i hi).trans aD
   obtain⟨Af,cf,rfl⟩:=dK hf;obtain⟨Y,ce,rfl⟩:=bD he;have O:=bn.new wr 128 (bQ x (F Af (Q x.f) cf) (F Y (Q x.es) ce));have k5:=O.cC;go_upto_region 5 with fail;obtain⟨vl,vp,va,t⟩:=M.aX;have hne:aW vl≠I (Z (D wr)):=λe=>by have:=(t.l.own e).2.1;omega
   have y:=aY (t.st k5);generalize wr.alloc _=C at *;generalize Z (D wr)=ge at O hne⊢;replace kr:=kr.tr k5;have fw:base<=Z (D C):=YI;have hN:∀k,(jT base g vl vp va k∨aW vl=I k)->k<Z (D C):=λk h=>h.elim (y.aX.lt fw k) λh=>(y.aX.l.own h).2.1
   have Ph:aW vl≠I g:=λe=>((y.aX.sep g).1 e).2.1 rfl
   have qs:∀W,oI vl C W->(∀i,W.cell? ⟨g,i,U⟩=(dY ⟨s.life,s.list.take j,[],s.ab⟩ vl vp va)[i]?)/\(∀i,W.cell? ⟨ge,i,U⟩=(bQ x (F Af (Q x.f) cf) (F Y (Q x.es) ce))[i]?):=λW u=>⟨(y.aX.blk.cA u Ph).cell,(O.cA u hne).cell⟩
   have hro:∀k,aW vl=I k->Z (D w0)<=k:=λk e=>by rw[<- hbase];exact ((y.aX.sep k).1 e).1
   refine FB 7 5 (s.list.take j) vl x 59 rz [([],[]),([0],[(21,0)]),([],[]),([2],[(23,2)]),([3],[(24,3)]),([1,4],[(22,1),(25,4)]),([],[]),([6,5],[(27,6),(26,5)])] 45 y.aX.l fw cG ?_;iterate 3 refine bA.i ?_
   refine bA.c (vX (λk=>jT base g vl vp va k∨aW vl=I k) cF x) (λ_ _ _ h k=>h.mut k λ_ h=>aJ h) (λW' u=>(Q4 x _ W' (mV.aX W' (T.tr (u.k kr hro))) hxs).mono λe w' ⟨v,e1,ho,k⟩=>⟨v,e1,Sk ho λk h=>cQ (hN k h) u.size,k⟩) ?_;refine bA.Gg (S:=cF) (N:=λk=>jT base g vl vp va k∨aW vl=I k) (Z (D C)) rz x (λ_ h=>h.size) (λb hb=>⟨aJ hb,hN b (aJ hb)⟩) (λV W A hp=>?_) ?_
   ·exact Sm
   refine bA.s ?_;refine bA.i ?_;refine⟨λ_ _=>trivial,λV W A hp=>?_,λV W A B hv hA=>?_⟩
   ·exact Km
   simp only[bU,bZ,dx,bM,Nat.reduceAdd]at hA;have t:=y.aX.KU A B hv;obtain⟨L,H,R⟩:=B.slice;rw[R]at t;generalize Q (s.list.take j++[x])=n9 at *;rw[<- HT.aX]at t;have hA:=aB R hA;have hb:=y.aX.blk.cA A Ph;have qs:=aB hb.cell hb.frozen;refine bJ.s ?_;refine bJ.h ?_;have HS9:=aY t;have k9:K w0 (aV W ⟨g,1,U⟩ (F L n9 H)):=(A.k kr hro).setCell bG _;exact ajd
  ·have cd:¬(j:Int)<Q s.list:=aZ;rw[iw aZ]at M;have HS0:=M;have kk:=kr;generalize wr=wa at *;go_wp2_with fail
   go_loopw [7,32] (fun _ i W=>∃j:Nat,j<=Q s.prom/\i=G J j/\Hid (BX base g ⟨s.life,s.list,s.prom.take j,s.ab⟩ W)/\K w0 W) (fun _ i _=>Q s.prom-(aO i).toNat)
   case atStart=>exact⟨0,aZ,rfl,aY ic,kk⟩
   case round =>
    obtain⟨j,hj,rfl,M,kr⟩:=hrel;by_cases hlt:j<Q s.prom
    ·have cd:(j:Int)<Q s.prom:=aZ;obtain⟨b1,off,cs,rfl,hcl,hrl,d0,d⟩:=eN HP.aX j hlt bC;have HT:Hid (s.prom.take (j+1)=s.prom.take j++[s.prom[j]]):=aY bq;have hxs:=hsp.aX _ (dG hlt);generalize s.prom[j]=x at *;obtain⟨vf,ve,rfl,hf,he⟩:=hrl w (K.rf w);have mV:Hid (∀W,K w W->fc x (av (bQ x vf ve)) W):=aY λW k=>⟨_,_,rfl,fJ _ _ _ _ hf k,cH he k⟩
     have s6:=T.tr kr;have d0:wr.cell? ⟨b1,off+j*8,U⟩=I (G J x.kind):=d0 wr s6;have d:∀i,i<8->wr.cell? ⟨b1,off+j*8+i,U⟩=(bQ x vf ve)[i]?:=λi hi=>(d wr s6 i hi).trans aD
     obtain⟨Af,cf,rfl⟩:=dK hf;obtain⟨Y,ce,rfl⟩:=bD he;have O:=bn.new wr 128 (bQ x (F Af (Q x.f) cf) (F Y (Q x.es) ce));have k5:=O.cC;go_upto_region 10 with fail;obtain⟨vl,vp,va,t⟩:=M.aX;have hne:aW vp≠I (Z (D wr)):=λe=>by have:=(t.p.own e).2.1;omega
     have y:=aY (t.st k5);generalize wr.alloc _=C at *;generalize Z (D wr)=ge at O hne⊢;replace kr:=kr.tr k5;have fw:base<=Z (D C):=YI;have hN:∀k,(jT base g vl vp va k∨aW vp=I k)->k<Z (D C):=λk h=>h.elim (y.aX.lt fw k) λh=>(y.aX.p.own h).2.1
     have Ph:aW vp≠I g:=λe=>((y.aX.sep g).2.1 e).2.1 rfl
     have qs:∀W,oI vp C W->(∀i,W.cell? ⟨g,i,U⟩=(dY ⟨s.life,s.list,s.prom.take j,s.ab⟩ vl vp va)[i]?)/\(∀i,W.cell? ⟨ge,i,U⟩=(bQ x (F Af (Q x.f) cf) (F Y (Q x.es) ce))[i]?):=λW u=>⟨(y.aX.blk.cA u Ph).cell,(O.cA u hne).cell⟩
     have hro:∀k,aW vp=I k->Z (D w0)<=k:=λk e=>by rw[<- hbase];exact ((y.aX.sep k).2.1 e).1
     refine FB 7 5 (s.prom.take j) vp x 59 rz [([],[]),([0],[(36,0)]),([],[]),([2],[(38,2)]),([3],[(39,3)]),([1,4],[(37,1),(40,4)]),([],[]),([6,5],[(42,6),(41,5)])] 45 y.aX.p fw cG ?_;iterate 3 refine bA.i ?_
     refine bA.c (vX (λk=>jT base g vl vp va k∨aW vp=I k) cF x) (λ_ _ _ h k=>h.mut k λ_ h=>aJ h) (λW' u=>(Q4 x _ W' (mV.aX W' (T.tr (u.k kr hro))) hxs).mono λe w' ⟨v,e1,ho,k⟩=>⟨v,e1,Sk ho λk h=>cQ (hN k h) u.size,k⟩) ?_;refine bA.Gg (S:=cF) (N:=λk=>jT base g vl vp va k∨aW vp=I k) (Z (D C)) rz x (λ_ h=>h.size) (λb hb=>⟨aJ hb,hN b (aJ hb)⟩) (λV W A hp=>?_) ?_
     ·exact Sm
     refine bA.s ?_;refine bA.i ?_;refine⟨λ_ _=>trivial,λV W A hp=>?_,λV W A B hv hA=>?_⟩
     ·exact Km
     simp only[bU,bZ,dx,bM,Nat.reduceAdd]at hA;have t:=y.aX.aa3 A B hv;obtain⟨L,H,R⟩:=B.slice;rw[R]at t;generalize Q (s.prom.take j++[x])=n9 at *;rw[<- HT.aX]at t;have hA:=aB R hA;have hb:=y.aX.blk.cA A Ph;have qs:=aB hb.cell hb.frozen;refine bJ.s ?_;refine bJ.h ?_;have HS9:=aY t;have k9:K w0 (aV W ⟨g,2,U⟩ (F L n9 H)):=(A.k kr hro).setCell bG _;exact ajd
    ·have cd:¬(j:Int)<Q s.prom:=aZ;rw[iw aZ]at M;obtain⟨vl,vp,va,t⟩:=M.aX;obtain⟨⟨Bl,dl,rfl⟩,⟨Bp,dp,rfl⟩,Ba,da,rfl⟩:=t.slices;have q:=t.blk.cell;have eV:=fH.bF kr;have z:=eV.frozen;have:=eV.cell;obtain⟨cN,k9,u9⟩:=N7 s (F Bl (Q s.list) dl) (F Bp (Q s.prom) dp) (F Ba (Q s.ab) da) eV rfl (T.tr kr) aZ;have H9:=aY (aB ((t.r YI).to (u9.more λk e=>show k<base by omega) (show Z (D w)<=base by omega)) k9);go_wp2;generalize ax (ax (ax (ax wr _ _) _ _) _ _) _ _=W9 at *;have R:=cN.cell;refine aM (v:=av (dY s (F Bl (Q s.list) dl) (F Bp (Q s.prom) dp) (F Ba (Q s.ab) da))) (by simp[results,results317,go_sem,R]) rfl ?_;exact⟨_,_,_,rfl,gL▸H9.aX.1,H9.aX.2⟩
theorem azn s r v u w(h:pF s v w)(hr:si r u w)(hfit:lH r)(aDX:fX r.e)(gG:∀x∈s.list,fX x)(hsp:∀x∈s.prom,fX x)(hz:Q s.list<=900000/\Q s.prom<=900000/\Q s.ab<=900000) :
 aK prog 292 #[v,u] w λe w'=>∃vl vp va,e=ak (au #[av (dY (oD s r).1 vl vp va),G J (oD s r).2])/\nF (λk=>k<Z (D w)) (oD s r).1 vl vp va w'/\K w w':=by
 have C1:=aY λW (k:K w W)=>ath s v W (N6 h k) gG hsp hz
 obtain⟨vl,vp,va,rfl,hl,hp,ha⟩:=h
 obtain⟨M,cl,rfl⟩:=bD hl
 obtain⟨H,R,rfl⟩:=bD hp
 obtain⟨S,L,rfl⟩:=bD ha
 have zH:=aY (λW (k:K w W)=>Tp hr k)
 obtain⟨vf,ve,rfl,hf,he⟩:=hr
 obtain⟨t,A,rfl⟩:=dK hf
 obtain⟨y,B,rfl⟩:=bD he
 have HF:=aY hfit
 generalize ho:oD s r=o
 have HO:=aY ho
 obtain⟨j,e'⟩:=o
 have HM:=aY aDX
 have fG:=((bn.new w 61 (dY s (F M (Q s.list) cl) (F H (Q s.prom) R) (F S (Q s.ab) L))).alloc (aq (gP r (F t (Q r.e.f) A) (F y (Q r.e.es) B)) 171)).alloc (aq ot 61)
 have Y:=(bn.new (aU w (aq (dY s (F M (Q s.list) cl) (F H (Q s.prom) R) (F S (Q s.ab) L)) 61)) 171 (gP r (F t (Q r.e.f) A) (F y (Q r.e.es) B))).alloc (aq ot 61)
 have V:=bn.new ((aU w (aq (dY s (F M (Q s.list) cl) (F H (Q s.prom) R) (F S (Q s.ab) L)) 61)).alloc (aq (gP r (F t (Q r.e.f) A) (F y (Q r.e.es) B)) 171)) 61 ot
 have X:=K.TS w (aq (dY s (F M (Q s.list) cl) (F H (Q s.prom) R) (F S (Q s.ab) L)) 61) (aq (gP r (F t (Q r.e.f) A) (F y (Q r.e.es) B)) 171) (aq ot 61)
 simp only[World.size_alloc]at Y V
 go_in
 go_wp2_with fail
 generalize ay (ay (ay w _) _) _=w0 at *
 generalize jJ:Z (D w)=gp at fG Y V⊢
 refine (C1.aX w0 X).mono ?_
 rintro e O⟨vl1,vp1,va1,rfl,hS,k1⟩
 have hV:=hS O (bf.rf _ _)
 obtain⟨⟨Bl,dl,rfl⟩,⟨Bp,dp,rfl⟩,Ba,da,rfl⟩:=hV.slices
 have kA:=K.new O (aq (dY s (F Bl (Q s.list) dl) (F Bp (Q s.prom) dp) (F Ba (Q s.ab) da)) 61)
 have N:=k1.tr kA
 have:=(Y.bF N).cell
 have HV:=aY hV
 have hgr:=V.lt
 have hz0:=X.size
 go_wp2_with fail
 generalize ay O _=w2 at *
 generalize Z (D O)=g at *
 have Jc:=X.tr N
 have UE:Pf (Z (D w0)) g s r (F Bl (Q s.list) dl) (F Bp (Q s.prom) dp) (F Ba (Q s.ab) da) (av (gP r (F t (Q r.e.f) A) (F y (Q r.e.es) B))) w2 :=
  ⟨HV.aX,λW' u'=>zH.aX W' (u'.k Jc λk e=>by have:=HV.aX.sep k;have:=HV.aX.low;unfold aa4 at e;grind),N.size,hz,HM.aX,HF.aX⟩
 have T:=aho w2 UE
 rw[HO.aX]at T
 have T:=aY T
 apply bN T.aX
 rintro w3⟨⟨vl,vp,va,C⟩,dy⟩
 simp only at C⊢
 obtain⟨⟨El,fl,rfl⟩,⟨Ep,fp,rfl⟩,Ea,fa,rfl⟩:=C.slices
 have q:=C.blk.cell
 have eV:=(V.bF N).below dy hgr
 have z:=eV.frozen
 have:=eV.cell
 obtain⟨cN,k9,u9⟩:=N7 j (F El (Q j.list) fl) (F Ep (Q j.prom) fp) (F Ea (Q j.ab) fa) eV rfl (Jc.trans (dy.mono hz0)) aZ
 have H9:=aY (aB (C.fx.up u9 λk e=>show k<Z (D w0) by omega) k9)
 go_wp2
 generalize ax (ax (ax (ax w3 _ _) _ _) _ _) _ _=W9 at *
 have e9:=cN.cell
 refine aM (v:=au #[av (dY j (F El (Q j.list) fl) (F Ep (Q j.prom) fp) (F Ea (Q j.ab) fa)),G J e']) (by simp[results,results292,go_sem,e9]) rfl ?_
 exact⟨_,_,_,rfl,H9.aX.1.less λk h=>aZ,H9.aX.2⟩
theorem azo n l wr:∀a∈(nR n l wr).1,ny a:=by
 simp only[nR]
 cases hd:vM (bY n l wr).1 with
 | none=>simp
 | some e=>exact (agf hd).2.2
theorem azp n l wr:∀a∈(sP n l wr).1,jF a:=by
 simp only[sP]
 cases hd:tv (bY n l wr).1 with
 | none=>simp
 | some e=>exact (age hd).2.2
theorem aCv l wr:(jd l wr).1.2.2.1<18446744073709551616/\(jd l wr).1.2.2.2.1<18446744073709551616/\(jd l wr).1.2.2.2.2.2<18446744073709551616 :=
 ⟨pN _ _,pN _ _,pN _ _⟩
theorem XJ a f es(A:a.2.2.1<18446744073709551616)(j:a.2.2.2.1<18446744073709551616)(B:a.2.2.2.2.2<18446744073709551616)(y:∀t∈f,jF t)(z:∀e∈es,∀a∈e,ny a) :
 dQ { qO a with f:=f,es:=es }:=by
 grind [jF,ny,dQ,qO,cV]
theorem azq n l wr:dQ (sQ n l wr).1:=by
 obtain⟨y,j,t⟩:=aCv l wr;unfold sQ;split
 ·exact XJ _ [] _ y j t bq (aii (λe=>∀a∈e,ny a) (azo n) _ _ _)
 ·split
  ·exact XJ _ _ [] y j t (azp n _ _) bq
  ·exact XJ _ [] [] y j t bq bq
theorem agq{b x}(h:jP b=I x):dQ x:=by
 grind [jP,azq]
theorem RE:dQ fo:=by simp[dQ,fo,cV]
theorem axh n l wr:lH (pk n l wr).1:=by
 have j:∀(k m:Nat) (e:bW) (b c d:Nat),dQ e->m<18446744073709551616->c<18446744073709551616->d<18446744073709551616->lH ⟨(min k 6:Nat),m,e,(min b 16:Nat),c,d⟩:=by
  grind [lH,pk,cV]
 unfold pk;simp only;split
 ·split
  ·simp[lH,KS,cV,RE]
  ·rename_i e t;have:=j (bE l wr).1 _ _ 0 0 0 (agq t) (pN (bE l wr).2.1 (bE l wr).2.2) aZ aZ;simpa using this
 ·split
  ·exact j _ _ _ _ _ _ RE (pN _ _) (pN _ _) (pN _ _)
  ·have:=j (bE l wr).1 _ _ 0 0 0 RE (pN (bE l wr).2.1 (bE l wr).2.2) aZ aZ;simpa using this
theorem avy{b x}(h:pg b=I x):lH x:=by
 unfold pg at h;split at h
 ·injection h with h;rw[<- h];exact axh _ _ _
 ·cases h
def mJ:fE (List UInt8) where
 size:=1
 rel l cs w:=∃v,cs=[v]/\sl l v w
 len:=by rintro _ _ _⟨v,rfl,_⟩;rfl
 one:=by rintro _ _ _⟨v,rfl,A,c,rfl,_⟩ u j;simp at j;subst j;rfl
 st:=by rintro _ _ _ _⟨v,rfl,h⟩ k;exact⟨v,rfl,pQ _ _ _ _ h k⟩
def uv(s:fe)(b:List UInt8):fe×Int:=if wP b=0 then oD s (wO b)else (s,wP b)
def jG:fe->List (List UInt8)->fe×Int
 | s,[]=>(s,0)
 | s,b :: l=>if (uv s b).2=0 then jG (uv s b).1 l else uv s b
def vN(l:List (List UInt8)):fe×Int:=if (jG eP l).2=0 then jG eP l else (eP,(jG eP l).2)
theorem axi l b:∀s,(jG s l).2=0->jG s (l++[b])=uv (jG s l).1 b:=by
 induction l with
 | nil =>
  grind [jG,uv]
 | cons c l j =>
  grind [jG,uv]
theorem azr l m:∀s,(jG s l).2≠0->jG s (l++m)=jG s l:=by
 induction l with
 | nil=>intro s h;simp[jG]at h
 | cons c l j =>
  grind [jG]
theorem avz{b}(h:wP b=0):∃x,pg b=I x/\wO b=x:=by
 unfold wP at h
 cases hd:pg b with
 | none=>simp[hd]at h
 | some x=>exact⟨x,rfl,by simp[wO,hd]⟩
theorem aCw{l}(h:iC l=aA):Q l<=16:=by
 grind [iC]
theorem xH{x}(h:dm x=aA):fX x:=by
 unfold dm at h;simp only[fB,decide_eq_true_eq]at h;obtain⟨-,h⟩:=h;split at h
 ·simp only[fB,decide_eq_true_eq,List.isEmpty_iff]at h;obtain⟨⟨⟨-,z⟩,j⟩,t⟩:=h;exact⟨bG,aZ,λe y=>by grind [aCw,xW]⟩
 ·split at h
  ·grind [dm,fX]
  ·split at h
   ·simp only[fB,List.isEmpty_iff]at h;exact⟨by grind [FG],bG,bG⟩
   ·cases h
theorem afF:fX fo:=by simp[fX,fo]
theorem auc{x}(h:fK x=aA):fX x.e:=by
 rcases Eh h with ⟨-,e,-⟩|⟨-,e,-⟩|⟨-,-,-,e⟩
 ·grind [afF]
 ·exact xH e
 ·grind [afF]
theorem am8 s t r(h:fR s r=I t):Q t.list<=Q s.list+1/\Q t.prom<=Q s.prom+1/\Q t.ab<=Q s.ab+1:=by
 have j:∀(l:List bW) a,Q (kK l a)<=Q l:=λl a=>ni _ _
 have:=j s.prom (bB r.e)
 have:=j s.prom (jW r)
 unfold fR BV zB zC zD BW at h
 grind
theorem azs s r:Q (oD s r).1.list<=Q s.list+1/\Q (oD s r).1.prom<=Q s.prom+1/\Q (oD s r).1.ab<=Q s.ab+1:=by
 unfold oD;split
 ·cases h:fR s r with
  | none=>simp
  | some t=>exact am8 s t r h
 ·simp
theorem azt s b:Q (uv s b).1.list<=Q s.list+1/\Q (uv s b).1.prom<=Q s.prom+1/\Q (uv s b).1.ab<=Q s.ab+1:=by
 grind [uv,azs]
theorem azu l:∀s,Q (jG s l).1.list<=Q s.list+Q l/\Q (jG s l).1.prom<=Q s.prom+Q l/\Q (jG s l).1.ab<=Q s.ab+Q l:=by
 induction l with
 | nil=>intro s;simp[jG]
 | cons c l j =>
  grind [azt,jG,fY,uv]
theorem agr{l:List (List UInt8)}{j}(y:j<Q l)(t:(jG eP (l.take j)).2=0):jG eP (l.take (j+1))=uv (jG eP (l.take j)).1 l[j]:=by
 grind [ix,axi]
theorem azv{l j}(y:j<Q l)(t:(jG eP (l.take j)).2=0){c}(hb:(uv (jG eP (l.take j)).1 l[j]).2=c)(A:¬c=0):vN l=(eP,c):=by
 have:=agr y t
 have:jG eP l=jG eP (l.take (j+1)):=by
  grind [List.take_append_drop,azr]
 unfold vN
 grind
theorem axj{l}(h:(jG eP l).2=0):vN l=((jG eP l).1,0):=by
 grind [jG,eP,vN]
def nT(l:List bW):List Rec:=l.zipIdx.map λp=>⟨2,p.2,p.1,0,0,0⟩
def mS(l:List bW):List Rec:=l.map λx=>⟨3,0,x,0,0,0⟩
def rW(l:List cB):List Rec:=l.map λa=>⟨4,0,fo,a.1,a.2.1,a.2.2⟩
def ye(n:Nat):List Rec:=if n=0 then []else [⟨1,n,fo,0,0,0⟩]
def eY(s:fe):List Rec:=ye s.life++nT s.list++mS s.prom++rW s.ab
theorem axk(l:List bW)(j:Nat)(h:j<Q l):nT (l.take (j+1))=nT (l.take j)++[⟨2,j,l[j],0,0,0⟩]:=by unfold nT;rw[ix h,List.zipIdx_append,List.map_append];simp[qN,Nat.min_eq_left (Nat.le_of_lt h)]
theorem axl(l:List bW)(j:Nat)(h:j<Q l):mS (l.take (j+1))=mS (l.take j)++[⟨3,0,l[j],0,0,0⟩]:=by unfold mS;exact aje
theorem axm(l:List cB)(j:Nat)(h:j<Q l):rW (l.take (j+1))=rW (l.take j)++[⟨4,0,fo,l[j].1,l[j].2.1,l[j].2.2⟩]:=by unfold rW;exact aje
theorem ahp n:Q (ye n)<=1:=by grind [ye]
theorem M7 l:Q (nT l)=Q l:=by simp[nT]
theorem RG l:Q (mS l)=Q l:=by simp[mS]
theorem XK l:Q (rW l)=Q l:=by simp[rW]
theorem aA3:(prog.info? 171).map (λi=>(i.zero,i.size,i.bytes))=I (I (av tL),13,136):=by rfl
theorem TX:ir prog 335 171 (av tL) 13 136:=⟨underlying335,aA3,rfl,bC⟩
theorem am9:(prog.info? 118).map (λi=>(i.zero,i.size,i.bytes))=I (I (F U 0 0),1,24):=by rfl
theorem UG:ir prog 125 118 (F U 0 0) 1 24:=⟨underlying125,am9,rfl,bC⟩
theorem ana{k n x}{a:cB}{vf ve W}(h:fc x (av (bQ x vf ve)) W):x7.rel ⟨k,n,x,a.1,a.2.1,a.2.2⟩ (gP ⟨k,n,x,a.1,a.2.1,a.2.2⟩ vf ve).toList W:=by obtain⟨j,t,e,h1,h2⟩:=h;exact Sq
theorem Hs{l a}:dI l a=aA ↔ ∃x∈l,bB x=a:=by simp[dI]
theorem M8{l a}:fD l a=aA↔a∈l:=by simp[fD]
theorem Rt{l a x}:x∈kK l a↔x∈l/\bB x≠a:=by simp[kK]
structure tN(s:fe):Prop where
 nl:(s.list.map bB).Nodup
 np:(s.prom.map bB).Nodup
 na:s.ab.Nodup
 lp:∀x∈s.list,∀y∈s.prom,bB x≠bB y
 la:∀x∈s.list,bB x∉s.ab
 pa:∀x∈s.prom,bB x∉s.ab
 B6:∀x∈s.list,dm x=aA/\dQ x
 B7:∀x∈s.prom,dm x=aA/\dQ x
 Jd:∀a∈s.ab,tz a.1=aA/\dX a
 life:s.life<18446744073709551616
theorem tN.zero:tN eP:=⟨AR,AR,AR,AR,AR,AR,AR,AR,AR,bC⟩
theorem tN.drop{s}(h:tN s) a:tN ⟨s.life,s.list,kK s.prom a,s.ab⟩:=by
 have hm:∀x∈kK s.prom a,x∈s.prom:=λx j=>(Rt.1 j).1
 refine⟨h.nl,?_,h.na,λx j y t=>h.lp x j y (hm y t),h.la,λx j=>h.pa x (hm x j),h.B6,λx j=>h.B7 x (hm x j),h.Jd,h.life⟩;exact (List.Sublist.map bB List.filter_sublist).nodup h.np
theorem Rc{α:Type}[DecidableEq α]{l}{a:α}(h:l.Nodup)(z:a∉l):(l++[a]).Nodup:=by rw[List.nodup_append];refine⟨h,bq,λx t y j=>?_⟩;simp at j;subst j;rintro rfl;exact z t
theorem tN.on{s t r}(h:tN s)(hok:fK r=aA)(S:lH r)(e:fR s r=I t):tN t:=by
 have hk:=Eh hok;obtain⟨-,T,O,V,W,Y⟩:=S;unfold fR BV zB zC zD BW at e;split at e
 ·split at e
  ·cases e
  ·injection e with e;subst e;exact⟨h.nl,h.np,h.na,h.lp,h.la,h.pa,h.B6,h.B7,h.Jd,T⟩
 ·rename_i je;split at e
  ·rename_i hk2;have N:dm r.e=true:=ajf;split at e
   ·cases e
   ·split at e
    ·cases e
    ·rename_i L;split at e
     ·cases e
     ·rename_i H;injection e with e;subst e;have hm:∀x∈kK s.prom (bB r.e),x∈s.prom/\bB x≠bB r.e:=λx j=>Rt.1 j
      have C:∀x∈s.list,bB x≠bB r.e:=λx j e=>L (Hs.2 ⟨x,j,e⟩)
      have M:bB r.e∉s.ab:=λj=>H (M8.2 j)
      have A:=h.drop (bB r.e);refine⟨?_,A.np,h.na,?_,?_,A.pa,?_,A.B7,h.Jd,h.life⟩
      ·simp only[List.map_append,lT,List.map_nil];refine Rc h.nl ?_;intro j;obtain⟨x,j,e⟩:=List.mem_map.1 j;exact C x j e
      ·intro x j y z;rcases List.mem_append.1 j with j|j
       ·exact h.lp x j y (hm y z).1
       ·simp at j;subst j;exact λe=>(hm y z).2 e.symm
      ·intro x j;rcases List.mem_append.1 j with j|j
       ·exact h.la x j
       ·simp at j;subst j;exact M
      ·intro x j;rcases List.mem_append.1 j with j|j
       ·exact h.B6 x j
       ·simp at j;subst j;exact⟨N,O⟩
  ·rename_i hk2;split at e
   ·rename_i lN;have N:dm r.e=true:=ajf;split at e
    ·cases e
    ·rename_i L;split at e
     ·cases e
     ·rename_i R;split at e
      ·cases e
      ·rename_i H;injection e with e;subst e;have C:∀x∈s.list,bB x≠bB r.e:=λx j e=>L (Hs.2 ⟨x,j,e⟩)
       have X:∀x∈s.prom,bB x≠bB r.e:=λx j e=>R (Hs.2 ⟨x,j,e⟩)
       have M:bB r.e∉s.ab:=λj=>H (M8.2 j)
       refine⟨h.nl,?_,h.na,?_,h.la,?_,h.B6,?_,h.Jd,h.life⟩
       ·simp only[List.map_append,lT,List.map_nil];refine Rc h.np ?_;intro j;obtain⟨x,j,e⟩:=List.mem_map.1 j;exact X x j e
       ·intro x j y z;rcases List.mem_append.1 z with z|z
        ·exact h.lp x j y z
        ·simp at z;subst z;exact C x j
       ·intro x j;rcases List.mem_append.1 j with j|j
        ·exact h.pa x j
        ·simp at j;subst j;exact M
       ·intro x j;rcases List.mem_append.1 j with j|j
        ·exact h.B7 x j
        ·simp at j;subst j;exact⟨N,O⟩
   ·split at e
    ·rename_i hk4;have hb:tz r.br=true:=by
      rcases hk with ⟨g,_⟩|⟨g,_⟩|⟨_,g,_⟩
      ·omega
      ·omega
      ·simp[tz,g.1,g.2]
     split at e
     ·cases e
     ·rename_i L;split at e
      ·cases e
      ·rename_i H;injection e with e;subst e;have C:∀x∈s.list,bB x≠jW r:=λx j e=>L (Hs.2 ⟨x,j,e⟩)
       have M:jW r∉s.ab:=λj=>H (M8.2 j)
       have A:=h.drop (jW r);refine⟨h.nl,A.np,Rc h.na M,A.lp,?_,?_,h.B6,A.B7,?_,h.life⟩
       ·intro x j hm;rcases List.mem_append.1 hm with hm|hm
        ·exact h.la x j hm
        ·simp at hm;exact C x j hm
       ·intro x j hm;rcases List.mem_append.1 hm with hm|hm
        ·exact A.pa x j hm
        ·simp at hm;exact (Rt.1 j).2 hm
       ·intro a B;rcases List.mem_append.1 B with B|B
        ·exact h.Jd a B
        ·simp at B;subst B;exact⟨hb,V,W,Y⟩
    ·split at e
     ·injection e with e;subst e;exact h.drop _
     ·cases e
def lf:fe->List Rec->Option fe
 | s,[]=>I s
 | s,r :: l=>(fR s r).bind λt=>lf t l
theorem RH l m:∀s,lf s (l++m)=(lf s l).bind λt=>lf t m:=by
 induction l with
 | nil=>intro s;rfl
 | cons r l j =>
  intro s
  simp only[bZ,lf]
  cases fR s r with
  | none=>rfl
  | some t=>exact j t
theorem ahq l(h:∀r∈l,fK r=aA/\lH r):∀s t,lf s l=I t->jG s (l.map dw)=(t,0):=by
 induction l with
 | nil=>intro s t e;injection e with e;subst e;rfl
 | cons r l B =>
  intro s t e
  obtain⟨j,z⟩:=h r bq
  simp only[lf]at e
  cases ho:fR s r with
  | none=>rw[ho]at e;cases e
  | some u =>
   rw[ho]at e;have y:=avp r j z;have A:uv s (dw r)=(u,0):=by unfold uv;rw[(WM y).1,(WM y).2,bT rfl,ahn j ho];rfl
   simp only[lT,jG,A,if_true];exact B (λx hx=>h x Ki) u t e
theorem aDh n:lf eP (ye n)=I ⟨n,[],[],[]⟩:=by
 unfold ye;split
 ·rename_i h;subst h;rfl
 ·rename_i h;simp[lf,fR,BV,eP,h]
theorem aDi n l:∀a:List bW,((a++l).map bB).Nodup->lf ⟨n,a,[],[]⟩ ((l.zipIdx (Q a)).map λp=>⟨2,p.2,p.1,0,0,0⟩)=I ⟨n,a++l,[],[]⟩:=by
 induction l with
 | nil=>intro a _;simp[lf]
 | cons x l t =>
  intro a h;have j:dI a (bB x)=false:=ajg;have z:fR ⟨n,a,[],[]⟩ ⟨2,Q a,x,0,0,0⟩=I ⟨n,a++[x],[],[]⟩:=by simp[fR,zB,j,fD,kK]
  simp only[List.zipIdx_cons,lT,lf,z,Option.bind_some];have:=t (a++[x]) Er;simpa using this
theorem aDj n L l:∀a:List bW,((a++l).map bB).Nodup->(∀x∈L,∀y∈l,bB x≠bB y)->lf ⟨n,L,a,[]⟩ (mS l)=I ⟨n,L,a++l,[]⟩:=by
 induction l with
 | nil=>intro a _ _;simp[lf,mS]
 | cons x l A =>
  intro a h t;have j:dI a (bB x)=false:=ajg;have hy:dI L (bB x)=false:=by rw[Bool.eq_false_iff];intro hh;obtain⟨y,hy,e⟩:=Hs.1 hh;exact t y hy x bq e
  have z:fR ⟨n,L,a,[]⟩ ⟨3,0,x,0,0,0⟩=I ⟨n,L,a++[x],[]⟩:=by simp[fR,zC,j,hy,fD]
  simp only[mS,lT,lf,z,Option.bind_some];have:=A (a++[x]) Er (λx j y hy=>t x j y Kn);simpa [mS]using this
theorem azw{l a}(h:∀x∈l,bB x≠a):kK l a=l:=by unfold kK;rw[List.filter_eq_self];intro x j;simpa using h x j
theorem aDk n L P l:∀a:List cB,(a++l).Nodup->(∀x∈L,bB x∉l)->(∀x∈P,bB x∉l)->lf ⟨n,L,P,a⟩ (rW l)=I ⟨n,L,P,a++l⟩:=by
 induction l with
 | nil=>intro a _ _ _;simp[lf,rW]
 | cons x l H =>
  intro a h z hp;have A:fD a x=false:=by rw[Bool.eq_false_iff];intro t;exact (List.nodup_append.1 h).2.2 x (M8.1 t) x bq rfl
  have j:dI L x=false:=by rw[Bool.eq_false_iff];intro t;obtain⟨y,j,e⟩:=Hs.1 t;exact z y j FO
  have C:kK P x=P:=azw λy j e=>hp y j FO
  have B:fR ⟨n,L,P,a⟩ ⟨4,0,fo,x.1,x.2.1,x.2.2⟩=I ⟨n,L,P,a++[x]⟩:=by simp[fR,zD,jW,A,j,C]
  simp only[rW,lT,lf,B,Option.bind_some];have:=H (a++[x]) Er (λy j hm=>z y j (by simp[hm])) (λy j hm=>hp y j (by simp[hm]));simpa [rW]using this
theorem azx{s}(h:tN s):lf eP (eY s)=I s:=by unfold eY;rw[RH,RH,RH,aDh];simp only[Option.bind_some];have j:=aDi s.life s.list [] (by simpa using h.nl);simp only[List.length_nil,bU]at j;unfold nT;rw[j];simp only[Option.bind_some];rw[aDj s.life s.list s.prom [] (by simpa using h.np) h.lp];simp only[Option.bind_some,bU];rw[aDk s.life s.list s.prom s.ab [] (by simpa using h.na) h.la h.pa];rfl
theorem Ht:dQ fo:=by simp[dQ,fo,cV]
theorem YJ{s}(h:tN s)(hz:Q s.list<=1000000):∀r∈eY s,fK r=aA/\lH r:=by
 intro r j;have A:cV 0:=tg;unfold eY at j;simp only[De]at j;rcases j with ((j|j)|j)|j
 ·unfold ye at j;split at j
  ·cases j
  ·simp at j;subst j;exact⟨by simp[fK,ze],tg,h.life,Ht,A,bq,bq⟩
 ·unfold nT at j;obtain⟨⟨x,k⟩,z,rfl⟩:=List.mem_map.1 j;have hm:=List.mem_zipIdx z;obtain⟨y,t⟩:=h.B6 x (by have:=hm.2.2;rw[this];exact dG _);exact⟨by simp[fK,y,ze],tg,by simp only;omega,t,A,bq,bq⟩
 ·unfold mS at j;obtain⟨x,z,rfl⟩:=List.mem_map.1 j;obtain⟨y,t⟩:=h.B7 x z;exact⟨by simp[fK,y,ze],tg,bq,t,A,bq,bq⟩
 ·unfold rW at j;obtain⟨a,C,rfl⟩:=List.mem_map.1 j;obtain⟨y,t,B,H⟩:=h.Jd a C;exact⟨by simp[fK,y],tg,bq,Ht,t,B,H⟩
abbrev qi(α:Type):=List UInt8->Bool->Bool->α×List UInt8×Bool×Bool
structure vO{α:Type}(enc:α->List UInt8)(ok:α->Prop)(rd:qi α):Prop where
 fwd:∀x,ok x->∀rest,rd (enc x++rest) az az=(x,rest,az,az)
 back:∀l wr bd,(rd l wr bd).2.2.1=az->(rd l wr bd).2.2.2=az->l=enc (rd l wr bd).1++(rd l wr bd).2.1/\wr=az/\bd=az
 len:∀l wr bd,Q (rd l wr bd).2.1<=Q l
def ET:qi Nat:=λl wr j=>((bE l wr).1,(bE l wr).2.1,(bE l wr).2.2,j)
def nA(j:Nat):qi Nat:=λl wr t=>if (bE l wr).1<j then ((bE l wr).1,(bE l wr).2.1,(bE l wr).2.2,t)else (0,(bE l wr).2.1,(bE l wr).2.2,aA)
theorem Re:vO bI (λn=>n<18446744073709551616) ET where
 fwd:=by intro n h rest;simp only[ET,td n h]
 back:=by intro l wr y t j;simp only[ET]at t j⊢;obtain⟨e,w⟩:=wL t;exact⟨e,w,j⟩
 len:=λl wr _=>pL l wr
theorem AJ y(A:y<=18446744073709551616):vO bI (λn=>n<y) (nA y) where
 fwd:=by intro n h rest;simp only[nA,td n aZ];rw[bT h]
 back:=by
  intro l wr z t j;simp only[nA]at t j⊢;split at j
  ·rename_i h;rw[bT h]at t⊢;obtain⟨e,w⟩:=wL t;exact⟨e,w,j⟩
  ·cases j
 len:=by intro l wr z;have:=pL l wr;simp only[nA];split <;> exact this
theorem CG j(y:0<j) l wr t:(nA j l wr t).1<j:=by
 grind [nA]
def nO{α β:Type}(a:qi α)(b:qi β):qi (α×β):=λl wr j =>
 (((a l wr j).1,(b (a l wr j).2.1 (a l wr j).2.2.1 (a l wr j).2.2.2).1),(b (a l wr j).2.1 (a l wr j).2.2.1 (a l wr j).2.2.2).2)
theorem xL{α β L C H z N M}(A:vO L H N)(B:vO C z M) :
 vO (λx:α×β=>L x.1++C x.2) (λx=>H x.1/\z x.2) (nO N M) where
 fwd:=by rintro ⟨x,y⟩ ⟨t,j⟩ rest;simp only[nO,fN,A.fwd x t,B.fwd y j]
 back:=by intro l wr P t j;simp only[nO]at t j⊢;obtain⟨S,V,T⟩:=B.back _ _ _ t j;obtain⟨O,W,R⟩:=A.back _ _ _ V T;refine⟨?_,W,R⟩;rw[fN,<- S];exact O
 len:=λl wr P=>cI (B.len _ _ _) (A.len _ _ _)
def Gb{α β:Type}(f:α->β)(a:qi α):qi β:=λl wr j=>(f (a l wr j).1,(a l wr j).2)
theorem ags{α β B H t}(A:vO B H t) f{z C}(g:β->α)(S:∀y,C y->H (g y)/\f (g y)=y/\z y=B (g y))(T:∀l wr j,z (f (t l wr j).1)=B (t l wr j).1):vO z C (Gb f t) where
 fwd:=by intro y P rest;obtain⟨O,N,R⟩:=S y P;simp only[Gb,R,A.fwd _ O,N]
 back:=by intro l wr j L M;simp only[Gb]at L M⊢;rw[T];exact A.back _ _ _ L M
 len:=λl wr j=>A.len l wr j
def iY{α:Type}(rd:qi α):Nat->qi (List α)
 | 0=>λl wr j=>([],l,wr,j)
 | k+1=>λl wr j=>((iY rd k l wr j).1++[(rd (iY rd k l wr j).2.1 (iY rd k l wr j).2.2.1 (iY rd k l wr j).2.2.2).1],(rd (iY rd k l wr j).2.1 (iY rd k l wr j).2.2.1 (iY rd k l wr j).2.2.2).2)
section
variable {α:Type} {enc:α->List UInt8} {ok:α->Prop} {rd:qi α}
theorem M9(C:vO enc ok rd) k l wr j:Q (iY rd k l wr j).2.1<=Q l/\Q (iY rd k l wr j).1=k:=by
 induction k with
 | zero=>exact⟨bL _,rfl⟩
 | succ k t=>exact⟨cI (C.len _ _ _) t.1,by grind [iY]⟩
theorem azy(p:α->Prop)(hp:∀l wr j,p (rd l wr j).1) k l wr j:∀x∈(iY rd k l wr j).1,p x:=by
 induction k with
 | zero=>simp[iY]
 | succ k t =>
  grind [iY]
theorem azz(C:vO enc ok rd)(l:List α)(h:∀x∈l,ok x) rest:∀k,k<=Q l->iY rd k (l.flatMap enc++rest) az az=(l.take k,(l.drop k).flatMap enc++rest,az,az):=by
 intro k
 induction k with
 | zero=>intro _;simp[iY]
 | succ k ih => intro hk;have hk':k<Q l:=aZ;have hd:l.drop k=l[k] :: l.drop (k+1):=bq;have hx:=h l[k] (dG hk');simp only[iY];exact aik
theorem axn(C:vO enc ok rd){k l wr j}(h:(iY rd k l wr j).2.2.1=az)(t:(iY rd k l wr j).2.2.2=az):l=(iY rd k l wr j).1.flatMap enc++(iY rd k l wr j).2.1/\wr=az/\j=false:=by
 induction k with
 | zero=>exact⟨cY,h,t⟩
 | succ k B =>
  simp only[iY]at h t⊢
  obtain⟨y,A,z⟩:=C.back _ _ _ h t
  grind
def gU(enc:α->List UInt8)(l:List α):List UInt8:=bI (Q l)++l.flatMap enc
def jk(rd:qi α):qi (List α):=λl wr j=>iY rd (nA 17 l wr j).1 (nA 17 l wr j).2.1 (nA 17 l wr j).2.2.1 (nA 17 l wr j).2.2.2
theorem sF(C:vO enc ok rd):vO (gU enc) (λl=>Q l<=16/\∀x∈l,ok x) (jk rd) where
 fwd:=by rintro l⟨t,j⟩ rest;simp only[jk,gU,fN,(AJ 17 aZ).fwd (Q l) (by show Q l<17;omega)];rw[azz C l j rest (Q l) (bL _)];simp
 back:=by intro l wr z t j;simp only[jk]at t j⊢;obtain⟨y,M,A⟩:=axn C t j;obtain⟨B,L,H⟩:=(AJ 17 aZ).back _ _ _ M A;refine⟨?_,L,H⟩;unfold gU;rw[(M9 C _ _ _ _).2,fN,<- y];exact B
 len:=λl wr z=>cI (M9 C _ _ _ _).1 ((AJ 17 aZ).len _ _ _)
end
structure mX where
 id:cB
 yes:Bool
 deriving DecidableEq
structure gM where
 kind:Int
 got:Nat
 dU:List mX
 asks:List bW
 entries:List bW
 gu:List bW
 fA:List cB
 ends:List cB
 deriving DecidableEq
def yg:gM:=⟨0,0,[],[],[],[],[],[]⟩
def qP(a:cB):Bool:=tz a.1
def vP(v:mX):Bool:=tz v.id.1
def mA{α:Type}(p:α->Bool)(l:List α):Bool:=decide (Q l<=16)&&l.all p
def Dq(m:gM):Bool:=if m.kind=1 then m.entries.isEmpty&&m.gu.isEmpty&&m.fA.isEmpty&&m.ends.isEmpty else if m.kind=2 then m.dU.isEmpty&&m.asks.isEmpty else az
def fI(m:gM):Bool:=Dq m&&mA vP m.dU&&mA dm m.asks&&mA dm m.entries&&mA dm m.gu&&mA qP m.fA&&mA qP m.ends
def jY(m:gM):Int:=if fI m then 0 else 130
def pW(m:gM):Prop:=cV m.kind/\m.got<18446744073709551616/\(∀v∈m.dU,dX v.id)/\(∀x∈m.asks,dQ x)/\(∀x∈m.entries,dQ x)/\(∀x∈m.gu,dQ x)/\(∀a∈m.fA,dX a)/\∀a∈m.ends,dX a
def nj(v:mX):List UInt8:=iy v.id++bI (if v.yes then 1 else 0)
def iP(x:bW):List UInt8:=jA (rM x)
def iZ(m:gM):List UInt8:=bI (cL m.kind)++bI m.got++(if m.kind=1 then gU nj m.dU++gU iP m.asks else gU iP m.entries++gU iP m.gu++gU iy m.fA++gU iy m.ends)
def Oi(m:gM):List UInt8:=if fI m then iZ m else []
def jX:qi cB:=Gb (λx=>((x.1:Int),x.2.1,x.2.2)) (nO (nA 16) (nO ET ET))
def pC:qi mX:=Gb (λx=>⟨x.1,decide (x.2=1)⟩) (nO jX (nA 2))
def kN(n:Int):qi bW:=λl wr j=>(nM (bY n l wr).1,(bY n l wr).2.1,(bY n l wr).2.2,j||(jP (bY n l wr).1).isNone)
theorem FC:vO iy (λa=>tz a.1=aA/\dX a) jX:=by
 refine ags (xL (AJ 16 aZ) (xL Re Re)) _ (λa:cB=>(a.1.toNat,a.2.1,a.2.2)) ?_ ?_
 ·rintro ⟨b,l,s⟩ ⟨y,j⟩;simp only[tz,fB,decide_eq_true_eq]at y;refine⟨⟨aZ,j.2.1,j.2.2⟩,?_,?_⟩
  ·grind
  ·grind [iy,wJ]
 ·intro l wr t;have:=CG 16 aZ l wr t;simp only[nO,iy];rw[wJ _ aZ aZ];simp
theorem Rf:vO nj (λv=>tz v.id.1=aA/\dX v.id) pC:=by
 refine ags (xL FC (AJ 2 aZ)) _ (λv:mX=>(v.id,if v.yes then 1 else 0)) ?_ ?_
 ·rintro ⟨a,y⟩ ⟨z,t⟩;refine⟨⟨⟨z,t⟩,bG⟩,bq,rfl⟩
 ·intro l wr j;simp only[nO,nj];have t:=CG 2 aZ (jX l wr j).2.1 (jX l wr j).2.2.1 (jX l wr j).2.2.2;grind
theorem Cu n:vO iP (λx=>dm x=aA/\dQ x/\(Q (fU x):Int)<=n) (kN n) where
 fwd:=by
  rintro x⟨t,j,z⟩ rest;have:=MW t j;have hb:=Hq n (fU x) aZ z rest;have e:rM x=fU x:=by unfold rM;rw[t];rfl
  simp only[kN,iP,jA,e];rw[hb];simp only[nM,agh x t j];rfl
 back:=by
  intro l wr L t j
  simp only[kN,Bool.or_eq_false_iff]at t j⊢
  obtain⟨y,_,B⟩:=FJ t
  cases hd:jP (bY n l wr).1 with
  | none=>rw[hd]at j;cases j.2
  | some x =>
   obtain⟨A,C⟩:=WY hd;refine⟨?_,B,j.1⟩;have e:rM x=fU x:=by unfold rM;rw[C];rfl
   simp only[nM,hd,Option.getD_some,iP,jA,e];rw[<- A];exact y
 len:=λl wr _=>FN n l wr
def i6:qi (Nat×Nat):=nO (nA 3) ET
def Bs(n:Int):qi (List mX×List bW):=nO (jk pC) (jk (kN n))
def qQ(n:Int):qi (List bW×List bW×List cB×List cB):=nO (jk (kN n)) (nO (jk (kN n)) (nO (jk jX) (jk jX)))
def ou(n:Int):qi gM:=λl wr j =>
 if (i6 l wr j).1.1=1 then (⟨1,(i6 l wr j).1.2,(Bs n (i6 l wr j).2.1 (i6 l wr j).2.2.1 (i6 l wr j).2.2.2).1.1,(Bs n (i6 l wr j).2.1 (i6 l wr j).2.2.1 (i6 l wr j).2.2.2).1.2,[],[],[],[]⟩,(Bs n (i6 l wr j).2.1 (i6 l wr j).2.2.1 (i6 l wr j).2.2.2).2)
 else if (i6 l wr j).1.1=2 then (⟨2,(i6 l wr j).1.2,[],[],(qQ n (i6 l wr j).2.1 (i6 l wr j).2.2.1 (i6 l wr j).2.2.2).1.1,(qQ n (i6 l wr j).2.1 (i6 l wr j).2.2.1 (i6 l wr j).2.2.2).1.2.1,(qQ n (i6 l wr j).2.1 (i6 l wr j).2.2.1 (i6 l wr j).2.2.2).1.2.2.1,(qQ n (i6 l wr j).2.1 (i6 l wr j).2.2.1 (i6 l wr j).2.2.2).1.2.2.2⟩,(qQ n (i6 l wr j).2.1 (i6 l wr j).2.2.1 (i6 l wr j).2.2.2).2)
 else (⟨((i6 l wr j).1.1:Int),(i6 l wr j).1.2,[],[],[],[],[],[]⟩,(i6 l wr j).2)
def rX(b:List UInt8):Option gM:=if !(ou (Q b) b az az).2.2.2&&(!(ou (Q b) b az az).2.2.1&&(ou (Q b) b az az).2.1.isEmpty)&&fI (ou (Q b) b az az).1 then I (ou (Q b) b az az).1 else U
def rQ(b:List UInt8):gM:=(rX b).getD yg
def y6(b:List UInt8):Int:=if (rX b).isSome then 0 else 130
theorem Sr{n l y wr z t j g}(h:i6 l wr z=((1,g),y,t,j)):ou n l wr z=(⟨1,g,(Bs n y t j).1.1,(Bs n y t j).1.2,[],[],[],[]⟩,(Bs n y t j).2):=by
 grind [ou]
theorem Ss{n l y wr z t j g}(h:i6 l wr z=((2,g),y,t,j)):ou n l wr z=(⟨2,g,[],[],(qQ n y t j).1.1,(qQ n y t j).1.2.1,(qQ n y t j).1.2.2.1,(qQ n y t j).1.2.2.2⟩,(qQ n y t j).2):=by
 grind [ou]
theorem anb{n l y wr j z t k g}(h:i6 l wr j=((k,g),y,z,t))(B:¬k=1)(A:¬k=2):ou n l wr j=(⟨(k:Int),g,[],[],[],[],[],[]⟩,y,z,t):=by
 grind [i6,ou]
theorem azA{α p}{l:List α}:mA p l=aA↔Q l<=16/\∀x∈l,p x=true:=by
 grind [mA]
theorem M0{m}(h:fI m=aA):((m.kind=1/\m.entries=[]/\m.gu=[]/\m.fA=[]/\m.ends=[])∨(m.kind=2/\m.dU=[]/\m.asks=[])) /\
 (Q m.dU<=16/\∀x∈m.dU,vP x=aA)/\(Q m.asks<=16/\∀x∈m.asks,dm x=aA)/\(Q m.entries<=16/\∀x∈m.entries,dm x=aA)/\(Q m.gu<=16/\∀x∈m.gu,dm x=aA) /\
 (Q m.fA<=16/\∀x∈m.fA,qP x=aA)/\(Q m.ends<=16/\∀x∈m.ends,qP x=aA):=by
 simp only[fI,fB,azA]at h
 obtain⟨⟨⟨⟨⟨⟨y,z⟩,t⟩,A⟩,B⟩,j⟩,h6⟩:=h
 grind [fI,vP,dm,qP,Dq]
theorem azB n l wr j(B:(ou n l wr j).2.2.1=az)(A:(ou n l wr j).2.2.2=az)(ok:fI (ou n l wr j).1=aA):l=iZ (ou n l wr j).1++(ou n l wr j).2.1/\wr=az/\j=false:=by
 have T:=xL (AJ 3 aZ) Re;obtain⟨k,g,z,t,y,C⟩:∃k g z t y,i6 l wr j=((k,g),z,t,y):=⟨_,_,_,_,_,rfl⟩;have H:=T.back l wr j;rw[show nO (nA 3) ET l wr j=((k,g),z,t,y)from C]at H;simp only at H;by_cases O:k=1
 ·subst O;rw[Sr C]at B A ok⊢;simp only at B A ok⊢;have S:=xL (sF Rf) (sF (Cu n));obtain⟨L,c1,c2⟩:=S.back z t y B A;obtain⟨M,c3,c4⟩:=H c1 c2;refine⟨?_,c3,c4⟩;have e:∀v a,iZ ⟨1,g,v,a,[],[],[],[]⟩=(bI 1++bI g)++(gU nj v++gU iP a):=by intro v a;simp[iZ,show cL 1=1 from rfl]
  rw[e,fN (bI 1++bI g)];unfold Bs;rw[<- L];exact M
 ·by_cases R:k=2
  ·subst R;rw[Ss C]at B A ok⊢;simp only at B A ok⊢;have V:=xL (sF (Cu n)) (xL (sF (Cu n)) (xL (sF FC) (sF FC)));have N:=V.back z t y;rw[show nO (jk (kN n)) (nO (jk (kN n)) (nO (jk jX) (jk jX))) z t y=qQ n z t y from rfl]at N;generalize qQ n z t y=r at *;obtain⟨⟨ra,X,rc,rd⟩,W,Y,rb_⟩:=r;simp only at B A ok N⊢;obtain⟨L,c1,c2⟩:=N B A;obtain⟨M,c3,c4⟩:=H c1 c2;refine⟨?_,c3,c4⟩;have e:∀a b c d,iZ ⟨2,g,[],[],a,b,c,d⟩=(bI 2++bI g)++(gU iP a++(gU iP b++(gU iy c++gU iy d))):=by intro a b c d;simp[iZ,show cL 2=2 from rfl]
   rw[e,fN (bI 2++bI g),<- L];exact M
  ·rw[anb C O R]at ok;have:=(M0 ok).1;simp only at this;omega
theorem Ru{b m}(h:rX b=I m):b=iZ m/\fI m=true:=by
 unfold rX at h;split at h
 ·rename_i j;injection h with h;simp only[fB,Bool.not_eq_true',List.isEmpty_iff]at j;obtain⟨⟨y,t,z⟩,A⟩:=j;grind [azB]
 ·cases h
theorem avA b:dQ (nM b):=by
 unfold nM
 cases h:jP b with
 | none=>exact RE
 | some x=>exact agq h
theorem Xp l wr j:dX (jX l wr j).1:=by have h:=CG 16 aZ l wr j;refine⟨?_,pN _ _,pN _ _⟩;simp only[jX,Gb,nO,cV];omega
theorem azC l wr j:dX (pC l wr j).1.id:=Xp l wr j
theorem XL n l wr j:dQ (kN n l wr j).1:=avA _
theorem Ka{α rd}(p:α->Prop)(hp:∀l wr j,p (rd l wr j).1) l wr j:∀x∈(jk rd l wr j).1,p x:=azy p hp _ _ _ _
theorem azD n l wr j:(∀v∈(Bs n l wr j).1.1,dX v.id)/\∀x∈(Bs n l wr j).1.2,dQ x :=
 ⟨Ka (λv:mX=>dX v.id) azC l wr j,Ka dQ (XL n) _ _ _⟩
theorem azE n l wr j:(∀x∈(qQ n l wr j).1.1,dQ x)/\(∀x∈(qQ n l wr j).1.2.1,dQ x)/\(∀x∈(qQ n l wr j).1.2.2.1,dX x)/\∀x∈(qQ n l wr j).1.2.2.2,dX x:=by
 obtain⟨z,L⟩:∃r,jk (kN n) l wr j=r:=⟨_,rfl⟩;obtain⟨y,C⟩:∃r,jk (kN n) z.2.1 z.2.2.1 z.2.2.2=r:=⟨_,rfl⟩;obtain⟨t,N⟩:∃r,jk jX y.2.1 y.2.2.1 y.2.2.2=r:=⟨_,rfl⟩;obtain⟨P,O⟩:∃r,jk jX t.2.1 t.2.2.1 t.2.2.2=r:=⟨_,rfl⟩;have B:=Ka dQ (XL n) l wr j;have A:=Ka dQ (XL n) z.2.1 z.2.2.1 z.2.2.2;have H:=Ka dX Xp y.2.1 y.2.2.1 y.2.2.2;have M:=Ka dX Xp t.2.1 t.2.2.1 t.2.2.2;have e:(qQ n l wr j).1=(z.1,y.1,t.1,P.1):=by simp only[qQ,nO,L,C,N,O]
 rw[e];rw[L]at B;rw[C]at A;rw[N]at H;rw[O]at M;exact⟨B,A,H,M⟩
theorem aA4 n l wr j:pW (ou n l wr j).1:=by
 have hg:(i6 l wr j).1.2<18446744073709551616:=pN _ _;have hk:(i6 l wr j).1.1<3:=CG 3 aZ l wr j;obtain⟨k,g,y,z,t,A⟩:∃k g y z t,i6 l wr j=((k,g),y,z,t):=⟨_,_,_,_,_,rfl⟩;rw[A]at hg hk;simp only at hg hk;by_cases B:k=1
 ·subst B;rw[Sr A];have:=azD n y z t;exact⟨tg,hg,this.1,this.2,bq,bq,bq,bq⟩
 ·by_cases C:k=2
  ·subst C;rw[Ss A];have:=azE n y z t;exact⟨tg,hg,bq,bq,this.1,this.2.1,this.2.2.1,this.2.2.2⟩
  ·grind [pW,ou,cV]
theorem RI{b m}(h:rX b=I m):pW m:=by
 grind [rX,aA4]
abbrev dZ(a:cB):Array aQ:=#[G J a.1,G E (a.2.1:Int),G E (a.2.2:Int)]
abbrev jn(v:mX):Array aQ:=#[G J v.id.1,G E (v.id.2.1:Int),G E (v.id.2.2:Int),ar v.yes]
def qj:fE mX where
 size:=4
 rel v cs _:=cs=(jn v).toList
 len:=by rintro _ _ _ rfl;rfl
 one:=by rintro x _ _ rfl u j;simp at j;rcases j with rfl|rfl|rfl|rfl <;> rfl
 st:=by rintro _ _ _ _ h _;exact h
abbrev mK(m:gM)(v1 v2 v3 v4 v5 v6:aQ):Array aQ:=#[G J m.kind,G E (m.got:Int),v1,v2,v3,v4,v5,v6]
def nG(m:gM)(v:aQ)(w:aP):Prop:=∃t A y z B j,v=av (mK m t A y z B j)/\bw qj m.dU t w/\bw cF m.asks A w/\bw cF m.entries y w/\bw cF m.gu z w/\bw dJ m.fA B w/\bw dJ m.ends j w
theorem aav{m v w w'}(h:nG m v w)(k:K w w'):nG m v w':=by obtain⟨z,L,B,C,N,j,e,A,t,H,M,y,h6⟩:=h;exact⟨z,L,B,C,N,j,e,cH A k,cH t k,cH H k,cH M k,cH y k,cH h6 k⟩
theorem ae3 a w :
 aK prog 274 #[av (dZ a)] w λe w'=>e=ak (ar (qP a))/\K w w':=by
 obtain⟨j,y,t⟩:=a
 have k1:=K.new w (aq (dZ (j,y,t)) 42)
 have HR:Hid (qP (j,y,t)=(decide (0<=j)&&decide (j<16))):=aY rfl
 generalize qP (j,y,t)=R at *
 by_cases h0:(0:Int)<=j
 ·by_cases h1:j<(16:Int)
  ·exact ajh
  ·exact ajh
 ·go_in;go_wp2;go_ret;exact⟨by rw[HR.aX];simp;intro;omega,k1⟩
theorem aud x w :
 aK prog 273 #[av (jn x)] w λe w'=>e=ak (ar (vP x))/\K w w':=by
 have k1:=K.new w (aq (jn x) 300)
 go_in
 go_wp2_with fail
 generalize w.alloc _=t at *
 apply bN (ae3 x.id t)
 intro y j
 go_wp2
 go_ret
 exact⟨cY,k1.tr j⟩
theorem avB x v w(h:fc x v w) :
 aK prog 275 #[v] w λe w'=>e=ak (ar (dm x))/\K w w':=by
 obtain⟨vf,ve,rfl,t,y⟩:=h
 obtain⟨C,H,rfl⟩:=dK t
 obtain⟨z,B,rfl⟩:=bD y
 have k1:=K.new w (aq (bQ x (F C (Q x.f) H) (F z (Q x.es) B)) 128)
 have A:=aY (Mz x _ _ ⟨_,_,rfl,fJ _ _ _ _ t k1,cH y k1⟩)
 go_in
 go_wp2_with fail
 generalize w.alloc _=M at *
 apply bN A.aX
 intro L j
 cases hok:dm x
 ·rw[Hm hok];go_wp2;go_ret;exact⟨by simp[hok],k1.tr j⟩
 ·rw[MM hok];go_wp2;go_ret;exact⟨by simp[hok],k1.tr j⟩
theorem asB l v w(h:bw qj l v w) :
 aK prog 276 #[v,.func (Fn.func 273) #[] #[]] w λe w'=>e=ak (ar (mA vP l))/\K w w':=by
 obtain⟨A,c,rfl,L,Y⟩:=h
 have HI:Hid (mA vP l=(decide (Q l<=16)&&l.all vP)):=aY rfl
 generalize mA vP l=R at *
 have kk:=K.rf w
 go_in
 by_cases jx:Q l<=16
 rotate_left
 ·exact YK
 have Bn:¬(16:Int)<(Q l:Int):=aZ
 go_wp2_with fail
 go_loopw [6,12] (fun _ i wr=>∃j:Nat,j<=Q l/\i=G J j/\Hid ((l.take j).all vP=aA)/\K w wr) (fun _ i _=>Q l-(aO i).toNat)
 case atStart=>exact⟨0,aZ,rfl,aY bq,kk⟩
 case round =>
  obtain⟨j,T,rfl,HT,kr⟩:=hrel;by_cases B:j<Q l
  ·have cd:(j:Int)<Q l:=aZ;obtain⟨z,t,cs,rfl,hcl,S,H,d⟩:=eN L j B bC;have HS:=aY (JT vP l j B);generalize l[j]=x at *;obtain rfl:=S w (K.rf w);have H:∀W,K wr W->W.cell? ⟨z,t+j*4,U⟩=I (G J x.id.1):=λW kW=>H W (kr.tr kW)
   have d:∀W,K wr W->∀i,i<4->W.cell? ⟨z,t+j*4+i,U⟩=(jn x)[i]?:=λW kW i M=>(d W (kr.tr kW) i M).trans aD
   have kk:=K.rf wr;have y:=bn.new wr 300 (jn x);have O:=y.cC;go_upto_region 6 with fail;have N:=kr.tr O;generalize wr.alloc _=C at *;generalize Z (D wr)=X at *;have q:=y.cells;have kk:=K.rf C;go_wp2_with fail
   apply dP (aud x C) N;intro V k4 uK;cases hq:vP x
   ·have HR:Hid (R=az):=aY (by
     have h1:(l.take (j+1)).all vP=false:=YL;rw[HI.aX,QV vP l (j+1) h1];simp)
    exact YM
   ·have pG:Hid ((l.take (j+1)).all vP=aA):=aY YN;exact YP
  ·exact YQ
theorem Wo l v w(h:bw cF l v w) :
 aK prog 277 #[v,.func (Fn.func 275) #[] #[]] w λe w'=>e=ak (ar (mA dm l))/\K w w':=by
 obtain⟨A,c,rfl,hl,hc⟩:=h
 have HI:Hid (mA dm l=(decide (Q l<=16)&&l.all dm)):=aY rfl
 generalize mA dm l=R at *
 have kk:=K.rf w
 go_in
 by_cases jx:Q l<=16
 rotate_left
 ·exact YK
 have Bn:¬(16:Int)<(Q l:Int):=aZ
 go_wp2_with fail
 go_loopw [6,12] (fun _ i wr=>∃j:Nat,j<=Q l/\i=G J j/\Hid ((l.take j).all dm=aA)/\K w wr) (fun _ i _=>Q l-(aO i).toNat)
 case atStart=>exact⟨0,aZ,rfl,aY bq,kk⟩
 case round =>
  obtain⟨j,hj,rfl,HT,kr⟩:=hrel;by_cases T:j<Q l
  ·have cd:(j:Int)<Q l:=aZ;obtain⟨N,z,cs,rfl,hcl,Y,V,d⟩:=eN hl j T bC;have HS:=aY (JT dm l j T);generalize l[j]=x at *;obtain⟨vf,ve,rfl,B,M⟩:=Y w (K.rf w);obtain⟨y,L,rfl⟩:=dK B;obtain⟨C,O,rfl⟩:=bD M;have V:∀W,K wr W->W.cell? ⟨N,z+j*8,U⟩=I (G J x.kind):=λW kW=>V W (kr.tr kW)
   have d:∀W,K wr W->∀i,i<8->W.cell? ⟨N,z+j*8+i,U⟩=(bQ x (F y (Q x.f) L) (F C (Q x.es) O))[i]?:=λW kW i hi=>(d W (kr.tr kW) i hi).trans aD
   have kk:=K.rf wr;have S:=bn.new wr 128 (bQ x (F y (Q x.f) L) (F C (Q x.es) O));have X:=S.cC;go_upto_region 6 with fail;have t:=kr.tr X;generalize wr.alloc _=H at *;generalize Z (D wr)=gx at *;have q:=S.cells;have kk:=K.rf H;go_wp2_with fail
   apply dP (avB x _ H ⟨_,_,rfl,fJ _ _ _ _ B t,cH M t⟩) t;intro w4 k4 uK;cases hq:dm x
   ·have HR:Hid (R=az):=aY (by
     have h1:(l.take (j+1)).all dm=false:=YL;rw[HI.aX,QV dm l (j+1) h1];simp)
    exact YM
   ·have pG:Hid ((l.take (j+1)).all dm=aA):=aY YN;exact YP
  ·exact YQ
theorem ae4 l v w(h:bw dJ l v w) :
 aK prog 278 #[v,.func (Fn.func 274) #[] #[]] w λe w'=>e=ak (ar (mA qP l))/\K w w':=by
 obtain⟨A,c,rfl,L,Y⟩:=h
 have HI:Hid (mA qP l=(decide (Q l<=16)&&l.all qP)):=aY rfl
 generalize mA qP l=R at *
 have kk:=K.rf w
 go_in
 by_cases jx:Q l<=16
 rotate_left
 ·exact YK
 have Bn:¬(16:Int)<(Q l:Int):=aZ
 go_wp2_with fail
 go_loopw [6,12] (fun _ i wr=>∃j:Nat,j<=Q l/\i=G J j/\Hid ((l.take j).all qP=aA)/\K w wr) (fun _ i _=>Q l-(aO i).toNat)
 case atStart=>exact⟨0,aZ,rfl,aY bq,kk⟩
 case round =>
  obtain⟨j,T,rfl,HT,kr⟩:=hrel;by_cases B:j<Q l
  ·have cd:(j:Int)<Q l:=aZ;obtain⟨z,t,cs,rfl,hcl,S,H,d⟩:=eN L j B bC;have HS:=aY (JT qP l j B);generalize l[j]=x at *;obtain rfl:=S w (K.rf w);have H:∀W,K wr W->W.cell? ⟨z,t+j*3,U⟩=I (G J x.1):=λW kW=>H W (kr.tr kW)
   have d:∀W,K wr W->∀i,i<3->W.cell? ⟨z,t+j*3+i,U⟩=(dZ x)[i]?:=λW kW i M=>(d W (kr.tr kW) i M).trans aD
   have kk:=K.rf wr;have y:=bn.new wr 42 (dZ x);have O:=y.cC;go_upto_region 6 with fail;have N:=kr.tr O;generalize wr.alloc _=C at *;generalize Z (D wr)=X at *;have q:=y.cells;have kk:=K.rf C;go_wp2_with fail
   apply dP (ae3 x C) N;intro V k4 uK;cases hq:qP x
   ·have HR:Hid (R=az):=aY (by
     have h1:(l.take (j+1)).all qP=false:=YL;rw[HI.aX,QV qP l (j+1) h1];simp)
    exact YM
   ·have pG:Hid ((l.take (j+1)).all qP=aA):=aY YN;exact YP
  ·exact YQ
theorem aCx{m}(h:m.kind=1):Dq m=(m.entries.isEmpty&&m.gu.isEmpty&&m.fA.isEmpty&&m.ends.isEmpty):=by grind [Dq]
theorem aCy{m}(h:m.kind=2):Dq m=(m.dU.isEmpty&&m.asks.isEmpty):=by grind [Dq]
theorem aCz{m}(h:¬m.kind=1)(j:¬m.kind=2):Dq m=false:=by grind [Dq]
theorem Tt{α:Type}{l:List α}(h:l.isEmpty=az):((Q l:Int)==0)=false:=by simp_all
theorem KC{α:Type}{l:List α}(h:l.isEmpty=aA):((Q l:Int)==0)=true:=by grind
theorem aeL m v w(h:nG m v w) :
 aK prog 219 #[v] w λe w'=>e=ak (G J (jY m))/\K w w':=by
 obtain⟨B,X,R,C,Y,A,rfl,z,h2,h3,h4,h5,h6⟩:=h
 have CV:=aY λW (kW:K w W)=>asB m.dU B W (cH z kW)
 have CA:=aY λW (kW:K w W)=>Wo m.asks X W (cH h2 kW)
 have CE:=aY λW (kW:K w W)=>Wo m.entries R W (cH h3 kW)
 have CP:=aY λW (kW:K w W)=>Wo m.gu C W (cH h4 kW)
 have CB:=aY λW (kW:K w W)=>ae4 m.fA Y W (cH h5 kW)
 have CD:=aY λW (kW:K w W)=>ae4 m.ends A W (cH h6 kW)
 obtain⟨M,c1,rfl⟩:=bD z
 obtain⟨H,c2,rfl⟩:=bD h2
 obtain⟨T,c3,rfl⟩:=bD h3
 obtain⟨N,c4,rfl⟩:=bD h4
 obtain⟨O,c5,rfl⟩:=bD h5
 obtain⟨V,c6,rfl⟩:=bD h6
 have y:=bn.new w 239 (mK m (F M (Q m.dU) c1) (F H (Q m.asks) c2) (F T (Q m.entries) c3) (F N (Q m.gu) c4) (F O (Q m.fA) c5) (F V (Q m.ends) c6))
 have k1:=y.cC
 go_in
 go_upto_region 2 with fail
 generalize w.alloc _=w1 at *
 have:=y.cells
 have kk:=K.rf w1
 generalize Z (D w)=g at *
 by_cases j:m.kind=1
 ·have uC:=aCx j;cases e3:m.entries.isEmpty
  ·exact aji
  have z3:=KC e3;cases e4:m.gu.isEmpty
  ·exact ajj
  have z4:=KC e4;cases e5:m.fA.isEmpty
  ·have S:=Tt e5;have HQ:Hid (jY m=130):=aY (by unfold jY;rw[show fI m=az from by simp[fI,uC,e5]];rfl);exact St
  have S:=KC e5;cases e6:m.ends.isEmpty
  ·have L:=Tt e6;have HQ:Hid (jY m=130):=aY (by unfold jY;rw[show fI m=az from by simp[fI,uC,e6]];rfl);exact St
  have L:=KC e6;have hK:Dq m=true:=bG;exact ajk
 by_cases t:m.kind=2
 ·have uC:=aCy t;cases e3:m.dU.isEmpty
  ·exact aji
  have z3:=KC e3;cases e4:m.asks.isEmpty
  ·exact ajj
  have z4:=KC e4;have hK:Dq m=true:=by rw[uC,e3,e4];rfl
  exact ajk
 have hK:=aCz j t
 have HQ:Hid (jY m=130):=aY (by unfold jY;rw[show fI m=az from by simp[fI,hK]];rfl)
 go_wp2
 go_ret
 exact⟨pM,k1⟩
def iQ(p:List Int):Bool:=decide (1<=Q p)&&decide (Q p<=16)&&decide (p[0]?=I (-1))&&(List.range (Q p)).all λn=>n==0||match p[n]? with|some q=>decide (0<=q)&&decide (q<(n:Int))|none=>aA
def iJ(p:List Int)(n:Int):Bool:=decide (0<=n)&&decide (n<(Q p:Int))
def um(p:List Int)(n:Int):List Int:=((List.range (Q p)).filter λk=>decide (p[k]?=I n)).map λ(k:Nat)=>(k:Int)
def Iq(p:List Int)(n:Int):List Int:=if iJ p n&&iQ p then um p n else []
def E8(p:List Int)(a:Int):Nat->Int->Bool
 | 0,_=>az
 | f+1,b=>if b<0 then az else if a=b then aA else E8 p a f ((p[b.toNat]?).getD (-1))
def E9(p:List Int)(a b:Int):Bool:=iJ p a&&iJ p b&&iQ p&&E8 p a (Q p+1) b
structure nB where
 cl:Int
 sub:Nat
 f:List eT
 deriving DecidableEq
def lC(s:nB)(x:bW):Int:=if kM s.cl x.cl != 0 then kM s.cl x.cl else kM s.sub x.sub
def wS(l:List nB)(x:bW):List nB :=
 if x.kind=2 then l.filter (λs=>decide (lC s x<0))++[⟨x.cl,x.sub,x.f⟩]++l.filter (λs=>decide (0<lC s x))
 else if x.kind=3 then l.filter (λs=>decide (lC s x<0))++l.filter (λs=>decide (0<lC s x))else l
def mw(l:List bW):List nB:=l.foldl (λo x=>if x.kind=1 then o else wS o x) []
def sS(l:List nB)(cs:List Int):List nB:=l.filter λs=>decide (s.cl∈cs)
def anyS(l:List nB)(e:List dW):Bool:=l.any λs=>oz s.f e
def lM(l:List nB)(cs:List Int)(x:bW):bW:=if x.kind=1 then { x with es:=x.es.filter (anyS (sS l cs)) }else x
def rN(l:List nB)(c:Int)(x:bW):List (List dW):=if x.kind=1 then x.es.filter (anyS (sS l [c]))else []
def tD(k:gM)(a:cB)(y:Bool):Bool:=k.dU.any λv=>decide (v=⟨a,y⟩)
def kZ(kids:List gM)(a:cB):Int:=if kids.any (λk=>tD k a az)then 2 else if kids.all (λk=>tD k a aA)then 1 else 0
def tu(kids:List gM)(o:List mX)(x:bW):List mX:=if kZ kids (bB x)≠0/\Q o<16 then o++[⟨bB x,decide (kZ kids (bB x)=1)⟩]else o
def oA(o:List mX)(a:cB):List mX:=if 16<=Q o then o else if o.any (λv=>decide (v.id=a))then o else o++[⟨a,az⟩]
def KD(prom:List bW)(refused:List cB)(kids:List gM):List mX:=refused.foldl oA (prom.foldl (tu kids) [])
def lJ(s:fe)(p:List bW×List cB)(x:bW):List bW×List cB :=
 if dI s.list (bB x)||dI s.prom (bB x)||fD s.ab (bB x)||dI p.1 (bB x)||fD p.2 (bB x)then p
 else if Q s.prom+Q p.1<6 then (p.1++[x],p.2)else (p.1,p.2++[bB x])
def pK(s:fe)(l:List bW):List bW×List cB:=l.foldl (lJ s) ([],[])
def nr(s:fe)(op:List bW)(o:List cB)(v:mX):List cB :=
 if 16<=Q o then o else if fD o v.id||dI s.list v.id||dI s.prom v.id||dI op v.id then o else o++[v.id]
def wW(s:fe)(op:List bW)(k:gM):List cB:=k.dU.foldl (nr s op) []
def rO(s:fe)(p:List bW×List bW)(x:bW):List bW×List bW :=
 if dI s.list (bB x)||fD s.ab (bB x)||dI p.1 (bB x)||dI p.2 (bB x)then p
 else if x.kind≠1 then (p.1,p.2++[x])else if Q p.1<4 then (p.1++[x],p.2)else p
def qK(s:fe)(op asks:List bW):List bW×List bW:=asks.foldl (rO s) (op,[])
def Gh(op:List bW)(kids:List gM):List bW:=op.filter λx=>decide (kZ kids (bB x)=1)
def Fa(op:List bW)(kids:List gM):List cB:=(op.filter λx=>decide (kZ kids (bB x)=2)).map bB
def sL(ab:List cB)(o:List cB)(x:bW):List cB:=if Q o<16/\fD ab (bB x)=aA/\fD o (bB x)=az then o++[bB x]else o
def wX(ab:List cB)(asks:List bW):List cB:=asks.foldl (sL ab) []
def Bf(l:List bW)(n:Nat):List bW:=(l.drop n).take 4
structure rC where
 gQ:List Rec
 room:Nat
def zI(b:List UInt8):Nat:=6+Q b
def jQ(l:List Rec):Nat:=(l.map λr=>zI (dw r)).sum
def wY(d:rC)(r:Rec):Bool:=decide (Q (dw r)<=4000)&&decide (jQ d.gQ+zI (dw r)<=d.room)
structure cJ where
 me:Int
 par:List Int
 bj:List Int
 st:fe
 bH:List fT
 calls:Nat
 dq:List (Int×gM)
 refused:List cB
 told:List cB
 waits:List bW
 dk:rC
def AZ(B:cJ)(c:Int):Bool:=decide (0<=c)&&decide (c<(Q B.bj:Int))&&decide (B.bj[c.toNat]?=I B.me)
def pn(B:cJ):Bool:=decide (B.me=0)
def jZ(B:cJ)(k:Int):gM:=((B.dq.find? λp=>decide (p.1=k)).map (·.2)).getD yg
def oB(l:List (Int×gM))(k:Int)(m:gM):List (Int×gM):=if l.any (λp=>decide (p.1=k))then l.map λp=>if p.1=k then (k,m)else p else l++[(k,m)]
def rR(B:cJ):List Int:=Iq B.par B.me
def fg(B:cJ):List gM:=(rR B).map (jZ B)
def wM(B:cJ)(a:cB):Bool:=fD B.told a||fD B.st.ab a
def EE(B:cJ):List cB:=B.st.ab++B.told
def lU(B:cJ)(o:List bW)(x:bW):List bW:=if dI o (bB x)||dI B.st.list (bB x)||wM B (bB x)||decide (16<=Q o)then o else o++[x]
def nt(B:cJ):List bW:=(fg B).foldl (λo k=>k.asks.foldl (lU B) o) ((kY B.bH).foldl (lU B) [])
def fk(B:cJ)(r:Rec):cJ×Bool :=
 if fK r&&wY B.dk r then (match fR B.st r with
  | none=>(B,az)
  | some t=>({ B with st:=t,dk:=⟨B.dk.gQ++[r],B.dk.room⟩,bH:=if r.kind=2 then iq B.bH (bB r.e)else B.bH },aA))
 else (B,az)
def oJ(n:Nat)(x:bW):Rec:=⟨2,n,x,0,0,0⟩
def lE(k:Int)(a:cB):Rec:=⟨k,0,fo,a.1,a.2.1,a.2.2⟩
def xm(x:bW):Rec:=⟨3,0,x,0,0,0⟩
def oG(B:cJ)(x:bW):cJ×Bool:=fk B (oJ (Q B.st.list) x)
def pO(B:cJ)(a:cB):cJ×Bool:=if (fk B (lE 4 a)).2 then ({ (fk B (lE 4 a)).1 with bH:=iq (fk B (lE 4 a)).1.bH a },aA)else (B,az)
def mP(kids:List gM)(p:cJ×List bW)(x:bW):cJ×List bW :=
 if kZ kids (bB x)=1 then (if (oG p.1 x).2 then ((oG p.1 x).1,p.2)else (p.1,p.2++[x]))
 else if kZ kids (bB x)=2 then (if (pO p.1 (bB x)).2 then ((pO p.1 (bB x)).1,p.2)else (p.1,p.2++[x]))
 else (p.1,p.2++[x])
def Bg(B:cJ):cJ:=(qK B.st B.waits (nt B)).2.foldl (λb x=>(oG b x).1) B
def pR(B:cJ):cJ×List bW:=(qK B.st B.waits (nt B)).1.foldl (mP (fg B)) (Bg B,[])
def iX(B:cJ):cJ:=if pn B then { (pR B).1 with waits:=(pR B).2 }else B
def nP(B:cJ)(j:Nat):List bW->cJ
 | []=>B
 | x :: r=>if j=Q B.st.list then (if (fk B (oJ j x)).2 then nP (fk B (oJ j x)).1 ((j+1)%18446744073709551616) r else B)
  else nP B ((j+1)%18446744073709551616) r
def lA(B:cJ)(a:cB):cJ:=if dI B.st.prom a then (fk B (lE 5 a)).1 else B
def po(B:cJ)(a:cB):cJ:=if wM B a then B else lA { B with told:=B.told++[a],bH:=iq B.bH a } a
def kJ(p:cJ×List cB)(x:bW):cJ×List cB:=if (fk p.1 (xm x)).2 then ((fk p.1 (xm x)).1,p.2)else (p.1,p.2++[bB x])
def nU(B:cJ)(l:List bW):List bW:=l.filter λx=>!fD B.told (bB x)
def vQ(B:cJ)(l:List bW):List cB:=(l.filter λx=>fD B.told (bB x)).map bB
def tE(B:cJ)(l:List bW):cJ×List cB:=(pK B.st (nU B l)).1.foldl kJ (B,vQ B l++(pK B.st (nU B l)).2)
def vH(B:cJ)(l:List bW):cJ:={ (tE B l).1 with refused:=(tE B l).2 }
def sM(B:cJ)(m:gM):cJ:=vH (m.ends.foldl lA (m.fA.foldl po (nP B m.got m.entries))) m.gu
def yh(B:cJ):Int:=(B.par[B.me.toNat]?).getD (-1)
def jr(B:cJ)(j:Int)(b:List UInt8):cJ×Int :=
 if decide (j∈rR B)||(!pn B&&decide (j=yh B))then
  (match rX b with
   | none=>(B,130)
   | some m=>if decide (j∈rR B)&&decide (m.kind=1)then (iX { B with dq:=oB B.dq j m },0)
    else if (!pn B&&decide (j=yh B))&&decide (m.kind=2)then (sM B m,0)else (B,201))
 else (B,201)
def xM(B:cJ)(k:Int):List Int:=((List.range (Q B.bj)).filter λc=>match B.bj[c]? with|some h=>E9 B.par k h|none=>az).map λ(c:Nat)=>(c:Int)
def Dj(B:cJ)(cs:List Int)(n:Nat)(l:List bW):List bW:=l.zipIdx.map λp=>lM (mw (B.st.list.take (n+p.2))) cs p.1
def rS(B:cJ)(k:Int):Nat:=min (jZ B k).got (Q B.st.list)
def wN(B:cJ)(k:Int):gM :=
 ⟨2,rS B k,[],[],Dj B (xM B k) (rS B k) (Bf B.st.list (rS B k)),((if pn B then B.waits else B.st.prom).take 16).map (lM (mw B.st.list) (xM B k)),wX (EE B) (jZ B k).asks,wW B.st B.waits (jZ B k)⟩
def CI(B:cJ):gM:=⟨1,Q B.st.list,KD B.st.prom B.refused (fg B),nt B,[],[],[],[]⟩
def qR(B:cJ):cB:=(B.me,B.st.life,B.calls+1)
def jR(B:cJ)(c:Int)(j:List fT×Int):cJ×cB×Int :=
 if AZ B c then (if j.2=0 then ({ B with bH:=j.1,calls:=B.calls+1 },qR B,0)else (B,(0,0,0),j.2))else (B,(0,0,0),200)
def y5(B:cJ)(c:Int):cJ×cB×Int:=jR B c (AY B.bH (qR B) c)
def ki(B:cJ)(k c:Int)(n:Nat)(f:List eT):bW:=⟨k,B.me,B.st.life,B.calls+1,c,n,f,[]⟩
def Bt(B:cJ)(c:Int)(n:Nat)(f:List eT):cJ×cB×Int:=jR B c (rV B.bH (ki B 2 c n f))
def Bb(B:cJ)(c:Int)(n:Nat):cJ×cB×Int:=jR B c (rV B.bH (ki B 3 c n []))
def fV(B:cJ)(r:List fT×Int):cJ×Int:=if r.2=0 then ({ B with bH:=r.1 },0)else (B,r.2)
def Ib(B:cJ)(a:cB):Int :=
 if dI B.st.list a then 3 else if wM B a then 4 else if (vG B.bH a).2 then (if (vG B.bH a).1.asked then 2 else 1)else 0
def pq(c:Int):List bW->List nB->Nat->List (List dW)×Nat
 | [],_,n=>([],n)
 | x :: r,s,n=>if rN s c x=[]then pq c r (if x.kind=1 then s else wS s x) (n+1)else (rN s c x,n+1)
def nu(B:cJ)(c j:Int):List (List dW)×Int×Int :=
 if AZ B c then (if 0<=j/\j<=(Q B.st.list:Int)then ((pq c (B.st.list.drop j.toNat) (mw (B.st.list.take j.toNat)) j.toNat).1,((pq c (B.st.list.drop j.toNat) (mw (B.st.list.take j.toNat)) j.toNat).2:Int),0)else ([],0,1))else ([],0,200)
def eJ(s:fe):fe:=⟨(s.life+1)%18446744073709551616,s.list,s.prom,s.ab⟩
def nV(p bj:List Int):Bool:=decide (1<=Q bj)&&decide (Q bj<=32)&&bj.all (iJ p)
