/-
  What the run of a script of calls on one broker keeps (BrokerGrows, layer 20), in plain Lean. Conditions: none.
-/
import Derived.Test.YtoeiinllelipoaaGreatMa25
import Derived.Sort.MapsRangeIn
import Derived.RangeFuncGives
import Derived.RangeFuncNested
import Derived.Shelf.SlSortCmp.WholeK
import Derived.Deep.QuietTactic
import Derived.BigQuiet
import Derived.Shelf.SlSortCmp.NoneTotal
import Derived.Shelf.Lay
import Derived.Ground.SlsfProg
import Derived.Test.YtoeiinllelipoaaGreatMz
set_option maxRecDepth 100000
set_option maxHeartbeats 16000000
set_option linter.unusedVariables false
set_option linter.unusedSimpArgs false
namespace Go.Proofs.YtoeiinllelipoaaGreat
open Go Go.RowKit Tryz
section
variable {P:aB->Prop}
theorem Uc(i:∀B r,P B->P (dt B r).1):∀ {l:List aq} {B:aB} {n:Nat},P B->P (kT B n l)
 | [],B,n,h=>h
 | x :: l,B,n,h=>by
  unfold kT;split
  ·split
   ·exact Uc i (i _ _ h)
   ·exact h
  ·exact Uc i h
theorem abE(i:∀B r,P B->P (dt B r).1){B:aB}(h:P B)(a:av):P (ji B a):=by
 unfold ji;split
 ·exact i _ _ h
 ·exact h
theorem Ud{α:Type}{f:aB->α->aB}(i:∀B a,P B->P (f B a)):∀ {l:List α} {B:aB},P B->P (l.foldl f B)
 | [],_,h=>h
 | a :: l,B,h=>Ud i (l:=l) (i B a h)
theorem ac0(i:∀B r,P B->P (dt B r).1):∀ {l:List aq} {p:aB×List av},P p.1->P (l.foldl iD p).1
 | [],_,h=>h
 | x :: l,p,h=>by
  refine ac0 i (l:=l) ?_;unfold iD;split
  ·exact i _ _ h
  ·exact h
theorem atB(i:∀B r,P B->P (dt B r).1)(j:∀B a,P B->P { B with told:=B.told++[a],aK:=fc B.aK a })(s:∀B l,P B->P { B with refused:=l }){B:aB}(h:P B)(m:bK):P (qU B m):=by
 unfold qU sZ;refine s _ _ ?_;unfold rX;refine ac0 i ?_;refine Ud (P:=P) (f:=ji) (λB a h=>abE i h a) ?_;refine Ud (P:=P) (f:=mT) (λB a h=>?_) (Uc i h);unfold mT;split
 ·exact h
 ·exact abE i (j _ _ h) a
end
def Qa(c:Nat)(B:aB):Prop:=B.calls=c/\fY B.aK
theorem apx{c:Nat}(B:aB)(r:Rec)(h:Qa c B):Qa c (dt B r).1:=by
 unfold dt;split
 ·split
  ·exact h
  ·refine⟨h.1,?_⟩;show fY (if r.kind=2 then fc B.aK (ax r.e)else B.aK);split
   ·exact h.2.settle _
   ·exact h.2
 ·exact h
theorem apy{c:Nat}{B:aB}(h:Qa c B)(m:bK):Qa c (qU B m) :=
 atB apx (λ_ _ h=>⟨h.1,h.2.settle _⟩) (λ_ _ h=>h) h m
theorem acg{B:aB}(h:lL B)(i:gL B)(fr:Int)(b:List UInt8)(t:B.told.length+16<=1000000):gL (jM B fr b).1/\(jM B fr b).1.calls=B.calls:=by
 have s:=(abD h i.tobH fr b t).2.1;suffices j:fY (jM B fr b).1.aK/\(jM B fr b).1.calls=B.calls from ⟨⟨s,j.1⟩,j.2⟩
 unfold jM;split
 ·split
  ·exact⟨i.rR,rfl⟩
  ·rename_i m hm;have u:=(T2 hm).2;have hfit:=Uu hm;split
   ·have g:=Ua (k:=fr) i.tobH u hfit;have y:gL { B with bR:=nA B.bR fr m }:=⟨g,i.rR⟩;exact⟨y.work.rR,(Oi g).calls⟩
   ·split
    ·have:=apy (c:=B.calls) ⟨rfl,i.rR⟩ m;exact⟨this.2,this.1⟩
    ·exact⟨i.rR,rfl⟩
 ·exact⟨i.rR,rfl⟩
structure kY(B:aB)(n:Nat):Prop where
 inv:gG B
 fit:lL B
 told:B.told.length<=16*n
 calls:B.calls<=n
section
variable {B:aB} {n:Nat}
theorem kY.start{me:Int}{p aZ:List Int}{d:lq}:kY (tZ me p aZ d (dS iL)) 0:=⟨au9,⟨vU,vU,vU,vU⟩,vU,vU⟩
theorem kY.step(h:kY B n):kY B (n+1):=⟨h.inv,h.fit,by have:=h.told;omega,by have:=h.calls;omega⟩
theorem kY.call(h:kY B n)(c:Int)(i:List bz×Int):kY (lF B c i).1 (n+1):=by
 have s:=(au7 h.inv c i).2;have j:(lF B c i).1.told=B.told/\(lF B c i).1.refused=B.refused/\(lF B c i).1.bR=B.bR/\(lF B c i).1.calls<=B.calls+1:=by
  unfold lF;split
  ·split
   ·exact⟨rfl,rfl,rfl,aG _⟩
   ·exact⟨rfl,rfl,rfl,Nat.le_succ _⟩
  ·exact⟨rfl,rfl,rfl,Nat.le_succ _⟩
 have:=h.told;have:=h.calls;exact⟨s,h.fit.same j.1 ⟨j.2.1,j.2.2.1⟩,by rw[j.1];omega,by have:=j.2.2.2;omega⟩
theorem kY.keep(h:kY B n)(r:List bz×Int):kY (gF B r).1 (n+1):=by
 have j:=(au8 h.inv r).2;have i:(gF B r).1.told=B.told/\(gF B r).1.refused=B.refused/\(gF B r).1.bR=B.bR/\(gF B r).1.calls=B.calls:=by unfold gF;split <;> exact⟨rfl,rfl,rfl,rfl⟩
 have:=h.told;have:=h.calls;exact⟨j,h.fit.same i.1 ⟨i.2.1,i.2.2.1⟩,by rw[i.1];omega,by rw[i.2.2.2];omega⟩
theorem kY.work(h:kY B n)(i:bH B):kY (ic B) (n+1):=by have j:=Oi i;have:=h.told;have:=h.calls;exact⟨(UC h.inv).2,T6 i h.fit,by rw[j.told];omega,by rw[j.calls];omega⟩
theorem kY.handle(h:kY B n)(i:gL B)(fr:Int)(b:List UInt8)(hn:n<=1000):kY (jM B fr b).1 (n+1):=by have t:=h.told;have u:=h.calls;have j:=abD h.fit i.tobH fr b af;have s:=acg h.fit i fr b af;exact⟨(acf h.inv fr b).2,j.1,by have:=j.2.2;omega,by rw[s.2];omega⟩
end
theorem ava{B B':aB}(h:fe B B')(i:gG B'):B.st.list.length<=B'.st.list.length/\B.st.ab.length<=B'.st.ab.length/\B'.st.life=B.st.life/\B'.st.list.take B.st.list.length=B.st.list/\B'.st.ab.take B.st.ab.length=B.st.ab/\(∀a∈B'.st.ab,cA B'.st.list a=false)/\B'.st.prom.length<=6 :=
 ⟨h.list.length_le,h.ab.length_le,h.life,(List.prefix_iff_eq_take.1 h.list).symm,(List.prefix_iff_eq_take.1 h.ab).symm,i.ab,i.prom⟩
section
open Go Go.RowKit Go.ChangeMaps
section
variable {α:Type} {enc:α->Value} {P:Program}
def rq(enc:α->Value)(w:World)(b r:Nat)(h:List (α×Value))(L:List α):Prop :=
 ∃(es:Array MapEntry) (c since:Nat) (seen:Array Nat) (c0:Nat),w.heap[b]?=some (.map es c)/\es.toList.map (λe=>(e.key,e.val))=h.map (λp=>(enc p.1,p.2))/\zZ es.toList c /\
  w.heap[r]?=some (.mapIter (some b) since seen c0)/\(∀x∈es.toList,x.born<since)/\since<=c0/\since<=c/\(Go.leftOf es seen).toList.map (·.key)=L.map enc
theorem fS.range{t kt E:TypeId}{w:World}{b:Nat}{i:List (α×Value)}(h:fS enc w b i)(A:P.underlying t=some (.map kt E)) :
 ∃w',(Instr.range t (.map (some b))).run P w=.ok (.pointer (some ⟨w.heap.size,0,none⟩)) w'/\rq enc w' b w.heap.size i (i.map (·.1))/\w.grownBy w' none/\w'.heap.size=w.heap.size+1:=by
 have B:=h.lt
 obtain⟨es,c,j,s,u⟩:=h
 refine⟨_,run_range_map w t kt E b es c A j,⟨es,c,c,#[],c,((MapKept.heap_alloc w _).2 b B).trans j,s,u,(MapKept.heap_alloc w _).1,λx y=>u.2 _ (List.mem_map.2 ⟨x,y,rfl⟩),aG _,aG _,?_⟩,World.grownBy_alloc w _ none,aj⟩
 have:=congrArg (List.map Prod.fst) s
 simp only[List.map_map]at this
 have e:(Go.leftOf es #[]).toList=es.toList:=by simp[Go.leftOf]
 rw[e,List.map_map]
 simpa [Function.comp_def]using this
theorem abF:∀(l:List MapEntry),(l.map (·.born)).Pairwise (· < ·)->∀(i:Nat) (h:i<l.length),l.filter (λx=>!(x.born==l[i].born))=l.eraseIdx i
 | [],_,i,h=>yQ
 | e :: l,hp,i,h=>by
  rw[j9,List.pairwise_cons]at hp
  cases i with
  | zero => rw[List.getElem_cons_zero,List.filter_cons_of_neg aj,List.eraseIdx_cons_zero,List.filter_eq_self];intro x t;have:=hp.1 x.born (List.mem_map.2 ⟨x,t,rfl⟩);have j:x.born≠e.born:=af;simpa using j
  | succ i => have s:i<l.length:=rT;have:=hp.1 l[i].born (List.mem_map.2 ⟨l[i],bW s,rfl⟩);have j:e.born≠l[i].born:=af;rw[List.getElem_cons_succ,List.filter_cons_of_pos (by simpa using j),List.eraseIdx_cons_succ,abF l hp.2 i s]
theorem TN{β γ:Type}(f:β->γ):∀(l:List β) (i:Nat),(l.eraseIdx i).map f=(l.map f).eraseIdx i
 | [],i=>rfl
 | x :: l,0=>rfl
 | x :: l,i+1=>by simp[TN f l i]
theorem rq.next{w:World}{b r:Nat}{I:List (α×Value)}{L:List α}(h:rq enc w b r I L)(ty:TypeId) :
 (L=[]/\(Instr.next (.pointer (some ⟨r,0,none⟩)) false ty).run P w=.ok (.tuple #[.bool false]) w) ∨
 ∃(i:Nat) (t:i<L.length) (v:Value) (w':World),(Instr.next (.pointer (some ⟨r,0,none⟩)) false ty).run P w=.ok (.tuple #[.bool true,enc L[i],v]) w'/\rq enc w' b r I (L.eraseIdx i)/\w.grownBy w' (some r)/\w'.heap.size=w.heap.size/\(Instr.entry (.pointer (some ⟨r,0,none⟩))).run P w'=.ok (.tuple #[enc L[i],v]) w':=by
 obtain⟨es,c,s,j,Q,H,R,F,A,J,Y,N,y⟩:=h
 have U:r≠b:=by rintro rfl;rw[H]at A;cases A
 rcases run_next_at (P:=P) w ty r b s Q j es c A H J Y with ⟨S,D⟩|⟨e,u,G,C,D⟩
 ·refine .inl ⟨?_,D⟩;have:(Go.leftOf es j).toList=[]:=by apply List.eq_nil_of_length_eq_zero;simpa using S
  rw[this]at y;exact List.map_eq_nil_iff.1 y.symm
 ·obtain⟨i,t,u⟩:=List.mem_iff_getElem.1 u;have Z:L.length=(Go.leftOf es j).toList.length:=by have:=congrArg List.length y;simpa using this.symm
  have M:i<L.length:=af;have hk:e.key=enc L[i]:=by have:=congrArg (λl=>l[i]?) y;simp only[List.getElem?_map,List.getElem?_eq_getElem t,List.getElem?_eq_getElem M,Option.map_some,Option.some.injEq]at this;rw[<- this,u]
  have V:G.heap[r]?=some (.mapIter (some b) s j Q):=by rcases C with rfl|rfl <;> exact A
  have X:G.heap[b]?=some (.map es c):=by rcases C with rfl|rfl <;> exact H
  have B:=MapKept.heap_set (o':=.mapIter (some b) s (j.push e.born) c) V;have W:(Go.leftOf es (j.push e.born)).toList=(Go.leftOf es j).toList.eraseIdx i:=by rw[<- abF _ (F.1.sublist ((show (Go.leftOf es j).toList.Sublist es.toList by unfold Go.leftOf;rw[Array.toList_filter];exact List.filter_sublist).map _)) i t,u];unfold Go.leftOf;rw[Array.toList_filter,Array.toList_filter,List.filter_filter];apply List.filter_congr;intro x _;rw[contains_push];cases j.contains x.born <;> cases (x.born==e.born) <;> rfl
  have O:(setBlock G r (.mapIter (some b) s (j.push e.born) c)).heap[b]?=some (.map es c):=(B.2 b (λE=>U E.symm)).trans X;have T:e∈es.toList:=by have:e∈(Go.leftOf es j).toList:=u▸bW t;unfold Go.leftOf at this;rw[Array.toList_filter]at this;exact (List.mem_filter.1 this).1
  refine .inr ⟨i,M,e.val,_,by rw[<- hk];exact D,⟨es,c,s,j.push e.born,c,O,R,F,B.1,J,N,N,?_⟩,?_,?_,by rw[<- hk];exact run_entry_at _ r b s j es c e B.1 O T (F.1.imp λh=>Nat.ne_of_lt h)⟩
  ·rw[W,TN,y,TN]
  ·rcases C with rfl|rfl <;> exact⟨rfl,rfl,rfl,by simp[setBlock],λi _ t=>B.2 i (λE=>t (by rw[E]))⟩
  ·rcases C with rfl|rfl <;> simp[setBlock]
theorem rq.left{w:World}{b r:Nat}{t:List (α×Value)}{L:List α}(h:rq enc w b r t L):w.rangeLeft b r=L.length:=by obtain⟨es,c,y,B,C,j,u,A,s,-,-,-,i⟩:=h;simp only[World.rangeLeft,j,s];have:=congrArg List.length i;simpa using this
theorem rq.walks{w w':World}{b r:Nat}{i:List (α×Value)}{L:List α}(h:rq enc w b r i L)(k:KeepsWalks w w'):rq enc w' b r i L:=by obtain⟨es,c,y,B,C,s,t,A,u,j⟩:=h;exact⟨es,c,y,B,C,k.same b _ s rfl,t,A,k.same r _ u rfl,j⟩
theorem rq.walk{w:World}{b r:Nat}{j:List (α×Value)}{L:List α}(h:rq enc w b r j L):∃o:Obj,w.heap[r]?=some o/\o.isWalk=true:=by obtain⟨es,c,y,B,C,t,u,A,i,s⟩:=h;exact⟨_,i,rfl⟩
end
section
variable {α:Type} {enc:α->Value} {F:Fence} {n:Nat} {P:Program} (w:World) {ops:Array Oper} {rest:List Oper} {o:Oper} {a:Act} {Q:Exit->Act->World->Prop}
theorem aof(hg:o.guard=none)(m:Operand)(t:TypeId)(hop:o.op=Op.range t m)(k e:TypeId)(s:P.underlying t=some (.map k e))(b:Nat)(i:List (α×Value))
 (hm:a.eval m=.map (some b)) (h:fS enc w b i)
 (B:∀w',rq enc w' b w.heap.size i (i.map (·.1))->w.grownBy w' none->w'.heap.size=w.heap.size+1->wpListIn F n P ops Q rest (a.put o.dst (.pointer (some ⟨w.heap.size,0,none⟩))) w') :
 wpListIn F n P ops Q (o :: rest) a w:=by
 refine wpListIn_plain hg λD u=>?_
 obtain⟨w',A,j,y,C⟩:=h.range s
 unfold Oper.wpIn
 refine⟨?_,?_⟩
 ·simp[Oper.about,hop]
 ·rw[Oper.semAt_plain F _ _ aiC];simp[execOp,hop,hm,A,Result.andThen];exact u _ _ (B w' j y C)
theorem aoo(hg:o.guard=none)(s:Operand)(hop:o.op=Op.next s false)(b r:Nat)(u:List (α×Value))(L:List α)
 (y:a.eval s=.pointer (some ⟨r,0,none⟩)) (h:rq enc w b r u L)
 (C:L=[]->wpListIn F n P ops Q rest (a.put o.dst (.tuple #[.bool false])) w)
 (G:∀(i:Nat) (A:i<L.length) (v:Value) (w':World),rq enc w' b r u (L.eraseIdx i)->w.grownBy w' (some r)->w'.heap.size=w.heap.size->(Instr.entry (.pointer (some ⟨r,0,none⟩))).run P w'=.ok (.tuple #[enc L[i],v]) w'->wpListIn F n P ops Q rest (a.put o.dst (.tuple #[.bool true,enc L[i],v])) w') :
 wpListIn F n P ops Q (o :: rest) a w:=by
 refine wpListIn_plain hg λJ t=>?_
 unfold Oper.wpIn
 refine⟨by simp[Oper.about,hop],?_⟩
 rw[Oper.semAt_plain F _ _ aiC]
 rcases h.next (P:=P) o.type with ⟨B,j⟩|⟨i,A,v,w',j,I,H,E,D⟩
 ·simp[execOp,hop,y,j,Result.andThen];exact t _ _ (C B)
 ·simp[execOp,hop,y,j,Result.andThen];exact t _ _ (G i A v w' I H E D)
end
end
section
open Go Go.RowKit Go.Shelf
attribute [local go_sem] Oper.semAt_some
theorem aqu(b:Nat)(w:World) :
 Calls prog 199 #[.map (some b)] w λe w'=>e=.returned (.func (.func 242) #[] #[.pointer (some ⟨w.heap.size,0,none⟩)])/\w'=w.alloc (.cells #[.map (some b)] 93):=by
 go_enter func199,ntmps199
 go_wp2
 go_ret
 exact⟨aj,rfl⟩
theorem adI{α:Type}:∀(L:List α) (i:Nat) (h:i<L.length),(L[i] :: L.eraseIdx i).Perm L
 | [],i,h=>yQ
 | x :: l,0,_=>aj
 | x :: l,i+1,h=>by have j:i<l.length:=rT;simp only[List.getElem_cons_succ,List.eraseIdx_cons_succ];exact (List.Perm.swap _ _ _).trans ((adI l i j).cons x)
theorem arV{α:Type}{pre L M:List α}(h:(pre++L).Perm M)(i:Nat)(j:i<L.length):(pre++[L[i]]++L.eraseIdx i).Perm M:=by refine List.Perm.trans ?_ h;rw[dG];exact List.Perm.append_left pre (adI L i j)
theorem atC(l Q b:Nat)(s:List (av×Value))(J N:List av->World->Prop)
 (X:∀pre x W,J pre W->pre.length<s.length->YieldAt Fence.wide 4 prog l #[km x] W λe t =>
  (e=.returned (.bool true)/\J (pre++[x]) t/\KeepsWalks W t)∨(e=.returned (.bool false)/\N (pre++[x]) t))
 (W:World) (A:AbidesFrom W.heap.size J) (h1:W.cell? ⟨Q,0,none⟩=some (.map (some b))) (hm:fS km W b s) (V:J [] W) :
 CallsIn Fence.wide 5 prog 242 #[.func (.yield l) #[] #[],.pointer (some ⟨Q,0,none⟩)] W λe t=>(∃v,e=.returned v) /\
  ((∃j:List av,j.Perm (s.map (·.1))/\J j t)∨(∃pre:List av,True/\N pre t)):=by
 refine callsIn_of_wp func242 rfl trivial ?_ rfl
 simp only[ntmps242,List.size_toArray,iE,List.length_nil,Nat.reduceAdd,Nat.reduceSub,Array.replicate_succ,Array.replicate_zero,List.push_toArray,List.append_toArray,aJ,aM]
 gi_wp2_with (first|(gi_at_range;refine aof _ rfl _ 93 rfl _ _ underlying93 b s rfl hm ?_;intro w0 T S hs0)|gi_in)
 go_frame
 generalize U:W.heap.size=B at *
 clear U
 gi_loopw [3,6,7,8,9,10,11,12,13] (λ_ _ _ _ _ _ _ _ _ wr=>∃(j L:List av),rq km wr b B s L/\(j++L).Perm (s.map (·.1))/\J j wr) (λ_ _ _ _ _ _ _ _ _ wr=>wr.rangeLeft b B)
 case atStart=>exact⟨[],_,T,aj,A [] W w0 none V S (λr e=>by cases e)⟩
 case round =>
  obtain⟨j,L,y,C,M⟩:=hrel;gi_wp2_with (first|(gi_at_next;refine aoo _ rfl _ rfl b B s L rfl y ?_ ?_)|gi_in)
  ·intro hL;subst hL;gi_wp2;go_end0;exact⟨⟨_,rfl⟩,.inl ⟨j,by simpa using C,M⟩⟩
  ·intro i hi v u F H dX hen;have G:J j u:=A j wr u (some B) M H (λr e=>by cases e;exact⟨aG _,y.walk⟩);have hp2:=arV C i hi;have hlen:j.length<s.length:=by have:=C.length_eq;simp at this;omega
   generalize I:L.eraseIdx i=D at *;have Z:D.length<L.length:=by rw[<- I,List.length_eraseIdx];split <;> omega
   generalize L[i]=x at *;have Rv:J j (u.alloc (.cells (bZ x) 46)):=A j u _ none G (World.grownBy_alloc _ _ _) (λr e=>by cases e);have Y:rq km (u.alloc (.cells (bZ x) 46)) b B s D:=F.walks (KeepsWalks.of_grownBy (World.grownBy_alloc _ _ none) (λ_ _ e=>by cases e));obtain⟨fn,tmps,assign,body,hy,O⟩:=X j x _ Rv hlen;obtain⟨x0,x1,x2⟩:=x;simp only[km]at hen hy O⊢;clear dX H G F I;gi_wp2;refine O.mono ?_;rintro e W3 (⟨rfl,hJ4,R⟩|⟨rfl,Qt⟩)
   ·gi_wp2;have E:=Y.walks R;go_roundw
    case rel=>exact⟨_,D,E,hp2,hJ4⟩
    case measure=>rw[E.left,y.left];exact Z
   ·gi_wp2;refine bodyPost_ret (results_none rfl _ _ _) rfl ?_;exact⟨⟨_,rfl⟩,.inr ⟨_,trivial,Qt⟩⟩
end
section
open Go Go.RowKit Go.Shelf
attribute [local go_sem] Oper.semAt_some
theorem awq{W j:World}{g:Nat}{t:TypeId}{cs:Array Value}(h:ai W g t cs){row:Option Nat}(hg:W.grownBy j row)(u:∀r,row=some r->∃o:Obj,W.heap[r]?=some o/\o.isCells=false):ai j g t cs :=
 (hg.block g h.lt λe=>by
  obtain⟨o,i,s⟩:=u g e.symm;unfold ai at h;rw[h]at i;cases i;cases s).trans h
theorem aop(b G:Nat)(L:List (av×Value))(w:World)(h1:w.cell? ⟨G,0,none⟩=some (.map (some b)))(hm:fS km w b L)(hlen:L.length<=1000000) :
 Calls prog 255 #[.slice none 0 0,.func (.func 242) #[] #[.pointer (some ⟨G,0,none⟩)]] w λe w'=>∃(v':Value) (H:List av),e=.returned v'/\H.Perm (L.map (·.1))/\w'.ownsRow w.heap.size 46 3 v' H.length (H.flatMap dL)/\K w w':=by
 have O:=Boxed.new w 32 (.slice none 0 0)
 have k2:K w (w.alloc (.cells #[.slice none 0 0] 32)):=(K.rf w).al _
 have hz2:(w.alloc (.cells #[.slice none 0 0] 32)).heap.size=w.heap.size+1:=aj
 have hm2:=hm.st k2
 have Es:G<w.heap.size:=Ka h1
 have h12:(w.alloc (.cells #[.slice none 0 0] 32)).cell? ⟨G,0,none⟩=some (.map (some b)):=(k2.cell (p:=⟨G,0,none⟩) Es).trans h1
 refine (callsIn_wide (n:=6)).1 ?_
 refine callsIn_of_wp_marks func255 rfl trivial ?_ rfl
 simp only[ntmps255,List.size_toArray,iE,List.length_nil,Nat.reduceAdd,Nat.reduceSub,Array.replicate_succ,Array.replicate_zero,List.push_toArray,List.append_toArray,aJ,aM]
 gi_wp2_with fail
 generalize w.alloc _=F at *
 generalize hg:w.heap.size=B0 at O⊢
 have HG:=ae hg
 clear hg hz2 hm h1
 have zx:G<F.heap.size:=Ka h12
 refine wpIn_rangeFunc_ownH rfl af (gf:=242) (lb:=#[.pointer (some ⟨G,0,none⟩)]) rfl trivial (enters_of func242 ak rfl)
  (encs:=λx:av=>#[km x]) (Kp:=KeepsWalks) (S:=λH:List av=>H.Perm (L.map λp:av×Value=>p.1)) (Sp:=λ_=>True) (N:=L.length) (w0:=F)
  (λl J Jx W hW hJ _ hY h0=>atC l G b L J Jx hY W hJ ((hW.cell (p:=⟨G,0,none⟩) zx).trans h12) (hm2.st hW) h0)
  walksK_t walksK_b (aN _ _) (λ_=>rfl)
  (λpre W=>∃v,Boxed W B0 32 v/\W.ownsRow F.heap.size 46 3 v pre.length (pre.flatMap dL)/\Below w.heap.size w W/\F.heap.size<=W.heap.size)
  (λ_ _ _=>False) ?own (λ_ _ _ _ _ hs _ _=>hs) ⟨_,O,iF _ _ _ _,k2,aG _⟩
  (λx a' W=>∃I,F.heap.size<=I/\ai W I 46 (bZ x)/\a'={ tmps:=#[.slice none 0 0,.func (.func 242) #[] #[.pointer (some ⟨G,0,none⟩)],.pointer (some ⟨B0,0,none⟩),undef,.slice none 0 0,.pointer (some ⟨I,0,none⟩),.func (.func 242) #[] #[.pointer (some ⟨G,0,none⟩)],.agg (bZ x),undef,undef,undef,undef,undef],defers:=[] })
  (λx a' _ X Y row hs hg hr=>by obtain⟨I,Q,Z,U⟩:=hs;exact⟨I,Q,awq Z hg λr e=>(hr r e).2,U⟩) ?assign ?body ?done ?stop
 case own => exact agN
 case assign => rintro l pre⟨y,E,C⟩ W K ⟨v,hv,hrow,hB,hz⟩ hK;have Q:KeepsOthers W (W.alloc (.cells (bZ (y,E,C)) 46)):=KeepsOthers.alloc _ _;have Z:=pg hrow (.cells (bZ (y,E,C)) 46);have U:=hB.alloc hB.size (.cells (bZ (y,E,C)) 46);have g4:=hv.alloc (.cells (bZ (y,E,C)) 46);have g5:=ai.new W 46 (bZ (y,E,C));simp only[km];gi_wp2;exact hK _ _ (Q.from _) Q.walks ⟨v,g4,Z,U,aU⟩ ⟨W.heap.size,hz,g5,rfl⟩
 case body =>
  rintro l pre⟨y,E,C⟩ a' W hl ⟨r,hr⟩ ⟨v,hv,hrow,hB,MR⟩ ⟨I,hBx,bX,rfl⟩ hpl;have q:=hv.cell;have q2:=bX.cells;have IM:=pg hrow (.cells (bZ (y,E,C)) 46);have aO:=ai.new W 46 (bZ (y,E,C));obtain⟨i,hi,hz0,iW,iX⟩:=uJ.fit;have kk:=K.rf W;gi_wp2_with (gi_at_builtin;refine wpListIn_append_own _ rfl _ _ 32 rfl F.heap.size 46 i _ 3 24 underlying32 hi hz0 iW iX rfl au v pre.length (pre.flatMap dL) rfl IM ⟨W.heap.size,0,none⟩ 1 1 (dL (y,E,C)) rfl rfl ?c1 ?c2 ?c3 ?c4 ?c5 ?_)
  case c1 => intro j u R;have h:=aO.cell j;rw[show (bZ (y,E,C))[j]?=(dL (y,E,C))[j]? by simp,R]at h;rw[show (⟨W.heap.size,0,none⟩:Addr).add j=⟨W.heap.size,j,none⟩ by cases j <;> simp[Addr.add]];exact h
  case c2=>intro u R;simp at R;rcases R with rfl|rfl|rfl <;> rfl
  case c3=>unfold maxLen;omega
  case c4=>omega
  case c5=>simp;omega
  intro v' w' hown' hgrow _;obtain⟨g',cap',M⟩:∃g cap,v'=.slice (some ⟨g,0,none⟩) (pre.length+1) cap:=by exact agO
  rw[M]at hown'⊢;clear M;obtain⟨v',M⟩:∃v',v'=Value.slice (some ⟨g',0,none⟩) (pre.length+1) cap':=⟨_,rfl⟩;rw[<- M]at hown';have hne:some B0≠v.ownBlock:=λe=>by have:=(hrow.lt B0 e.symm).1;have:=O.lt;omega
  have V:Boxed w' B0 32 v:=(hv.alloc _).kept hgrow hne;have q1:=V.cell;have z1:=V.frozen;have aky:v'.ownBlock≠some B0:=λe=>by have:=(hown'.lt B0 e).1;have:=O.lt;omega
  have u:ah (λk=>k=B0∨F.heap.size<=k) W (w'.setCell ⟨B0,0,none⟩ v') :=
   ((ah.bg ((K.rf W).al (.cells (bZ (y,E,C)) 46)) _).tr (ah.fM hgrow λg hg=>.inr (IM.lt g hg).1)).tr (ah.b6 (X:=λk=>k=B0∨F.heap.size<=k) (.inl rfl) 0 v')
  have Jg:KeepsOthers W (w'.setCell ⟨B0,0,none⟩ v'):=by refine ((KeepsOthers.alloc W (.cells (bZ (y,E,C)) 46)).trans (KeepsOthers.of_grownBy hgrow λj o ej hj=>?_)).trans (KeepsOthers.setCell _ _ _);exact agP
  have T:Boxed (w'.setCell ⟨B0,0,none⟩ v') B0 32 v'/\(w'.setCell ⟨B0,0,none⟩ v').ownsRow F.heap.size 46 3 v' (pre++[(y,E,C)]).length ((pre++[(y,E,C)]).flatMap dL)/\Below w.heap.size w (w'.setCell ⟨B0,0,none⟩ v')/\F.heap.size<=(w'.setCell ⟨B0,0,none⟩ v').heap.size:=by
   refine⟨V.set v',?_,⟨u.os.trans hB.os,u.tape.trans hB.tape,u.output.trans hB.output,bq hB.size u.size,λk hk=>(u.block k (bB hk hB.size) λh=>?_).trans (hB.block k hk)⟩,bq MR u.size⟩
   ·exact agQ
   ·have:=k2.size;have:=HG.aa;omega
  subst M;gi_wp2;exact⟨Jg.from _,Jg.walks,_,T.1,T.2.1,T.2.2.1,T.2.2.2⟩
 case done =>
  rintro D H W hD hp⟨v,hv,hrow,hB,MR⟩ hK;have q:=hv.cell;have hr:(W.putObj D (.deferred none)).ownsRow w.heap.size 46 3 v H.length (H.flatMap dL):=Dm (my k2.size hrow) λg _ _ h2=>World.putObj_heap_other λe=>by exact agR
  have HV:=ae hr;have HI:=ae (belowK_b (n₀:=w.heap.size) (w:=F) k2.size W D _ (.deferred none) hD hK rfl rfl);have HP:=ae hp;clear hp hr;gi_wp2;refine⟨aj,.inl ⟨_,_,rfl,run_takeDeferred hK,?_⟩⟩;exact⟨_,results_tmp rfl _ _ _,_,H,rfl,HP.aa,by rw[<- HG.aa];exact HV.aa,hB.trans HI.aa⟩
 case stop => rintro D c pre W _ _ h _;exact h.elim
end
section
open Go Go.RowKit Go.Sort
def iJ(l:List av)(a:av):Nat:=(l.findIdx? λx=>decide (x=a)).getD 0
theorem ac1(a:av):∀(l:List av) (n i:Nat),jT a ((l.zipIdx n).map λp=>(p.1,Value.int .i64 (p.2:Int))) i=(l.findIdx? λx=>decide (x=a)).map λj=>(i+j,Value.int .i64 ((n+j:Nat):Int))
 | [],n,i=>rfl
 | x :: l,n,i=>by
  rw[List.zipIdx_cons,j9,List.findIdx?_cons];unfold jT;by_cases h:x=a
  ·simp[h]
  ·simp only[h,if_false,decide_false,Bool.false_eq_true];rw[ac1 a l (n+1) (i+1),Option.map_map];congr 1;funext j;simp only[Function.comp_apply,Prod.mk.injEq,Value.int.injEq,true_and];constructor
   ·omega
   ·congr 1;omega
theorem atD(l:List av)(a:av):(qV (og l) a).getD (.int .i64 0)=.int .i64 (iJ l a:Int):=by unfold qV og iJ;rw[ac1 a l 0 0];cases l.findIdx? λx=>decide (x=a) <;> simp
theorem PM{l:List av}(h:l.Nodup)(i:Nat)(s:i<l.length):iJ l l[i]=i:=by
 unfold iJ;have:(l.findIdx? λx=>decide (x=l[i]))=some i:=by rw[List.findIdx?_eq_some_iff_getElem];refine⟨s,aj,λj t=>?_⟩;have:=(List.nodup_iff_pairwise_ne.1 h);have:=(List.pairwise_iff_getElem.1 this) j i af s t;simpa using this
 rw[this];rfl
def FR(l:List av)(x y:av):Int:=Lib.compareInt (iJ l x:Int) (iJ l y:Int)
theorem Sk(l:List av)(x y:av):Go.Proofs.ltOf (FR l) x y=decide (iJ l x<iJ l y):=by
 unfold ltOf FR Lib.compareInt;by_cases j:(iJ l x:Int)<(iJ l y:Int)
 ·have:iJ l x<iJ l y:=af;simp[this]
 ·by_cases s:(iJ l y:Int)<(iJ l x:Int)
  ·have:¬iJ l x<iJ l y:=af;have i:iJ l y<iJ l x:=af;simp[this,i]
  ·have:¬iJ l x<iJ l y:=af;have i:¬iJ l y<iJ l x:=af;simp[this,i]
theorem azr(l:List av):SWO (Go.Proofs.ltOf (FR l)) where
 irrefl x:=by rw[Sk];simp
 trans x y z h1 h2:=by rw[Sk]at *;simp at *;omega
 ntrans x y z h1 h2:=by rw[Sk]at *;simp at *;omega
theorem aqv{l:List av}(h:l.Nodup){d s:Array av}(L:d.toList.Perm l)(D:PermIn 0 d.size d s)(F:SortedIn (Go.Proofs.ltOf (FR l)) 0 d.size s):s.toList=l:=by
 obtain⟨u,-,A⟩:=D;have E:s.toList.Perm d.toList:=by
  have I:(s.extract 0 d.size)=s:=by rw[<- u];simp
  have M:(d.extract 0 d.size)=d:=aj;rw[I,M]at A;exact A
 have t:s.toList.Perm l:=E.trans L;refine List.Perm.eq_of_pairwise (le:=λa b=>iJ l a<=iJ l b) ?_ ?_ ?_ t
 ·intro a b J hb H B;obtain⟨i,hi,rfl⟩:=List.mem_iff_getElem.1 (t.mem_iff.1 J);obtain⟨j,hj,rfl⟩:=List.mem_iff_getElem.1 hb;rw[PM h,PM h]at H B;have:i=j:=af;subst this;rfl
 ·rw[List.pairwise_iff_getElem];intro i j hi hj y;have:=F i j (fw _) y (by simpa [u]using hj);rw[Sk]at this;have C:i<s.size:=Bc;have G:j<s.size:=vT;rw[getElem!_pos s i C,getElem!_pos s j G]at this;simp only[decide_eq_false_iff_not,Nat.not_lt]at this;simpa using this
 ·rw[List.pairwise_iff_getElem];intro i j hi hj y;rw[PM h,PM h];omega
end
section
open Go Go.RowKit Go.Sort
theorem atE(a:Int)(w:World):Calls prog 204 #[.int .i64 a] w λe w'=>e=.returned (.bool false)/\w'=w:=by go_enter func204,ntmps204;go_wp2;go_ret;exact⟨aj,rfl⟩
theorem atF(a b:Int)(w:World):Calls prog 149 #[.int .i64 a,.int .i64 b] w λe w'=>e=.returned (.int .i64 (Lib.compareInt a b))/\w'=w:=by
 have i:=ae λa W=>atE a W
 have HR:Hid (Lib.compareInt a b=if a<b then -1 else if b<a then 1 else 0):=ae rfl;generalize Lib.compareInt a b=R at *;go_enter func149,ntmps149;go_wp2_with fail
 refine (i.aa a w).mono ?_;rintro e j⟨rfl,rfl⟩;go_wp2_with fail
 refine (i.aa b j).mono ?_;rintro e s⟨rfl,rfl⟩;clear i;by_cases h1:a<b
 ·have HE:Hid (R=-1):=ae aiD;clear HR;exact sV
 by_cases h2:b<a
 ·have HE:Hid (R=1):=ae aiE;clear HR;exact sV
 have HE:Hid (R=0):=ae aiF;clear HR;exact sV
theorem fS.drewN{α:Type}{enc:α->Value}{w:World}{b:Nat}{i:List (α×Value)}(h:fS enc w b i)(n:Nat):fS enc (w.drewN n) b i:=h
theorem aoR(told:List av)(x y:av)(g gt D:Nat)(A:Array Value)(W:World)(hg:ai W g 95 A)(F:A[12]?=some (.map (some gt)))(hm:fS km W gt (og told))(hb:ai W D 29 #[.pointer (some ⟨g,0,none⟩)]) :
 Calls prog 200 #[cN x,cN y,.pointer (some ⟨D,0,none⟩)] W λe w'=>e=.returned (.int .i64 (FR told x y))/\∃q S,w'=grow (W.drewN q) S:=by
 have u:=(ai.new W 46 (bZ x)).alloc (.cells (bZ y) 46)
 have t:=ai.new (W.alloc (.cells (bZ x) 46)) 46 (bZ y)
 have j:K W ((W.alloc (.cells (bZ x) 46)).alloc (.cells (bZ y) 46)):=((K.rf W).al _).al _
 have G:=(hg.below j hg.lt).cell
 have Z:=(hb.below j hb.lt).cell 0
 have C:=hm.st j
 have L:∃os,(W.alloc (.cells (bZ x) 46)).alloc (.cells (bZ y) 46)=grow W os:=⟨_,by rw[alloc_eq_grow,alloc_eq_grow,grow_grow]⟩
 have hz:(W.alloc (.cells (bZ x) 46)).heap.size=W.heap.size+1:=aj
 rw[hz]at t
 obtain⟨os,H⟩:=L
 have J:=ae H
 have O:=ae λW=>atF (iJ told x:Int) (iJ told y:Int) W
 have M:Hid (FR told x y=Lib.compareInt (iJ told x:Int) (iJ told y:Int)):=ae rfl
 have s:∀n (a:av),(Instr.lookup 93 (.map (some gt)) (.agg #[.int .i64 a.1,.int .u64 (a.2.1:Int),.int .u64 (a.2.2:Int)]) false).run prog (((W.alloc (.cells (bZ x) 46)).alloc (.cells (bZ y) 46)).drewN n)=.ok (.int .i64 (iJ told a:Int)) (((W.alloc (.cells (bZ x) 46)).alloc (.cells (bZ y) 46)).drewN n):=λn a=>by have:=(Ig Qs underlying93 (V5 _) (C.drewN n) a).2;rw[atD]at this;exact this
 have T:((W.alloc (.cells (bZ x) 46)).alloc (.cells (bZ y) 46)).cell? ⟨g,12,none⟩=some (.map (some gt)):=(G 12).trans F
 clear hm C H hg hb G hz F j
 have E:=u.cell
 have U:=t.cell
 clear u t
 go_enter func200,ntmps200
 go_upto_region 1 with (fail)
 generalize World.alloc (World.alloc W _) _=Y at *
 generalize Lib.compareInt (iJ told x:Int) (iJ told y:Int)=R at *
 generalize B:iJ told x=V at *
 generalize I:iJ told y=X at *
 have N:=λn=>s n x
 have Q:=λn=>s n y
 rw[B]at N
 rw[I]at Q
 clear s B I
 have E:=λi=>E i
 go_quiet ((go_at_call 149;refine Calls.quiet_of_same (O.aa _)))
 go_wp2
 go_ret
 exact⟨by rw[M.aa];rfl,_,os,by rw[J.aa];rfl⟩
end
section
open Go Go.RowKit Go.Shelf Go.Sort
shelf_lay_g SlLaysF0.n6 Slsf 6 at Tryz 241 as Tryz.aiG
theorem axr(l:List av)(i j:Nat)(hi:i<l.length)(s:j<3):(l.flatMap dL)[i*3+j]?=(dL l[i])[j]?:=by
 have e:l.flatMap dL=(l.map dL).flatten:=by simp[List.flatMap_def]
 have h:=vK 3 (l.map dL) (λcs h=>PN) i j Bc s;rw[e,h,List.getElem?_map,List.getElem?_eq_getElem hi];rfl
theorem adJ(d:Array av)(i j:Nat)(s:i<d.size)(u:j<3):some (flatK dL 3 d)[i*3+j]! = (dL d[i])[j]?:=by have t:i*3+j<d.size*3:=af;rw[get_flatK dL 3 d _ t,show (i*3+j)/3=i by omega,show (i*3+j)%3=j by omega,getElem!_pos d i s];rcases j with _|_|_|j <;> first|rfl|omega
theorem Ox{w:World}{base g cap:Nat}{l:List av}(h:w.ownsRow base 46 3 (.slice (some ⟨g,0,none⟩) l.length cap) l.length (l.flatMap dL))(H:base<=g):HoldsK dL 3 w g 0 l.toArray/\g<w.heap.size/\base<=g/\l.length<=cap:=by
 rcases h.2 with ⟨e,-⟩|⟨E,G,s,e,hb,C,A,-,F,D⟩
 ·cases e
 ·injection e with e1 e2 e3;injection e1 with e1;injection e1 with e1;subst e1 e3;have i:ai w g 46 s:=C;refine⟨λt B=>⟨?_,i.frozen _⟩,i.lt,hb,A⟩;rw[size_flatK,List.size_toArray]at B;have hi:t/3<l.length:=af;have y:t%3<3:=Nat.mod_lt _ au;have j:t=t/3*3+t%3:=af;rw[i.cell];show s[0+t]?=some _;rw[fP,show (flatK dL 3 l.toArray)[t]! = (flatK dL 3 l.toArray)[t/3*3+t%3]! by rw[<- j],id,adJ _ _ _ Bc y];have u:=axr l (t/3) (t%3) hi y;rw[<- j,<- D,List.getElem?_take_of_lt af]at u;rw[<- Array.getElem?_toList,u];simp
theorem atG{w:World}{g cap:Nat}{d:Array av}(h:HoldsK dL 3 w g 0 d)(hg:g<w.heap.size)(hc:d.size<=cap):ar bI d.toList (.slice (some ⟨g,0,none⟩) d.size cap) w:=by
 refine⟨_,cap,aj,⟨d.toList.map dL,OB _ _,?_,λ_=>⟨g,0,rfl,hg,λt u j=>?_⟩⟩,KU⟩
 ·rw[AQ 3 _ λcs h=>PN];simp[bI]
 ·have hl:t<d.size*3:=by have:=(List.getElem?_eq_some_iff.1 j).1;rw[AQ 3 _ λcs h=>PN]at this;simpa using this
  have hi:t/3<d.size:=af;have i:t%3<3:=Nat.mod_lt _ au;have s:t=t/3*3+t%3:=af;rw[(h t Iy).1,id,show (flatK dL 3 d)[t]! = (flatK dL 3 d)[t/3*3+t%3]! by rw[<- s],adJ _ _ _ hi i];have:=vK 3 (d.toList.map dL) (λcs h=>PN) (t/3) (t%3) Bc i;rw[<- s,j,List.getElem?_map,List.getElem?_eq_getElem (show t/3<d.toList.length by simpa using hi)]at this;exact this.symm
theorem ac2(w:World)(g m:Nat)(d:Array av)(os:Array Obj):ah (λk=>k=g) w (sortWorldK dL 3 w g 0 m d os):=by
 refine⟨rfl,rfl,rfl,?_,λk hk hg=>?_⟩
 ·simp[sortWorldK,grow,putRowK,putRow,mapBlock,Sort.ahead]
 ·simp only[sortWorldK,grow,putRowK,putRow,mapBlock,Sort.ahead];rw[Array.getElem?_append_left pc,Array.getElem?_modify];have i:¬g=k:=λe=>hg e.symm
  simp[i]
theorem aoq(b s:Nat)(j:List (av×Value))(w:World)(u:w.cell? ⟨s,0,none⟩=some (.map (some b)))(hm:fS km w b j)(E:j.length<=1000000) :
 Calls prog 240 #[.func (.func 242) #[] #[.pointer (some ⟨s,0,none⟩)]] w λe w'=>∃(t:Value) (i:List av),e=.returned t/\i.Perm (j.map (·.1))/\w'.ownsRow w.heap.size 46 3 t i.length (i.flatMap dL)/\K w w':=by
 have C:=ae (aop b s j w u hm E)
 clear u hm
 go_enter func240,ntmps240
 go_wp2_with fail
 refine C.aa.mono ?_
 rintro e F⟨t,i,rfl,A,y,k⟩
 have D:=ae A
 have B:=ae y
 clear A y
 go_wp2
 go_ret
 exact⟨_,i,rfl,D.aa,B.aa,k⟩
theorem atH(l:List av):(og l).map (·.1)=l:=by unfold og;rw[List.map_map];exact List.zipIdx_map_fst 0 l
theorem an1{α:Type}[Inhabited α](enc:α->List Value)(k:Nat)(w:World)(blk h:Nat)(d dk:Array α)(m:Nat)(os:Array Obj)(s:HoldsK enc k w blk h d)(i:blk<w.heap.size)(j:dk.size=d.size):HoldsK enc k (sortWorldK enc k w blk h m dk os) blk h dk:=holdsK_sortWorldK_c enc k w blk h d dk m os s i j
theorem aoS(told:List av)(g gt D O:Nat)(A:Array Value)(w:World)(hg:ai w g 95 A)(hA:A[12]?=some (.map (some gt)))(hm:fS km w gt (og told))(hb:ai w D 29 #[.pointer (some ⟨g,0,none⟩)])
 (N:w.cell? ⟨O,0,none⟩=some (.map (some gt))) (hn:told.Nodup) (M:told.length<=1000000) :
 Calls prog 198 #[.func (.func 242) #[] #[.pointer (some ⟨O,0,none⟩)],.func (.func 200) #[] #[.pointer (some ⟨D,0,none⟩)]] w λe w'=>∃Y,e=.returned Y/\ar bI told Y w'/\K w w':=by
 have C:=ae (aoq gt O (og told) w N hm (by simpa [og]using M))
 have hlt:=hm.lt
 have I:=ae λW (k:K w W) (l:List av) (i cap:Nat) (j:W.ownsRow w.heap.size 46 3 (.slice (some ⟨i,0,none⟩) l.length cap) l.length (l.flatMap dL)) (G:w.heap.size<=i) (hl:l.length<=1000000) =>
  AnyQ.slices_SortFunc Tryz.aiG 3 (λW=>Tryz.isAgg46 W) (λW=>Tryz.sizeOf46 W) dL (λ_=>rfl) (λx v V=>by simp at V;rcases V with rfl|rfl|rfl <;> rfl) (FR told) (azr told) 200 #[.pointer (some ⟨D,0,none⟩)] i 0 cap l.toArray W
   (enters_of func200 ak rfl)
   (λm os dk hs x y=>by
    have u:=ac2 W i m dk os;have F:=hg.lt;have bN:=hb.lt;exact aoR told x y g gt D A _ ((hg.below k F).bT u af) hA ((hm.st k).bT u af) ((hb.below k bN).bT u af))
   (Ox j G).1 (Ox j G).2.1 aU
 have H:=ae λ(p:Option Addr) (cap:Nat) (fv:Value) (W:World)=>AnyF.slices_SortFunc_none Tryz.aiG p cap fv W
 rw[atH]at C
 have HN:=ae hn
 have HL:=ae M
 clear hg hm hb N hlt hn M
 go_enter func198,ntmps198
 go_wp2_with fail
 refine C.aa.mono ?_
 rintro e B⟨v2,s,rfl,L,j,Q⟩
 have Z2:s.length<=1000000:=by rw[L.length_eq];exact HL.aa
 have X:=ae L
 have E:=ae j
 clear C L
 rcases j.2 with ⟨rfl,G⟩|⟨i,cap,cur,rfl,hb,hc,N,h2,h3,h4⟩
 ·have ht:told=[]:=by
   have:=X.aa.length_eq
   cases told with
   | nil=>rfl
   | cons a l=>simp at this;omega
  clear j E I;go_wp2_with fail
  refine (H.aa _ _ _ _).mono ?_;rintro e T⟨rfl,rfl⟩;clear H;go_wp2;go_ret;exact⟨_,rfl,by rw[ht];exact iu _ _,Q⟩
 ·have S:=ae (I.aa B Q s i cap E.aa hb Z2);have F:=(Ox E.aa hb).2.1;have HH:=ae (Ox E.aa hb).1;clear I H j hc h3 h4;go_wp2_with fail
  refine S.aa.mono ?_;rintro e T⟨rfl,t,n,os,J,Z,rfl⟩;have u:=ac2 B i n t os;have hd:=aqv HN.aa (d:=s.toArray) (by simpa using X.aa) J Z;have R:t.size=s.length:=by have:=J.1;simpa using this
  have HF:=ae (atG (cap:=cap) (an1 dL 3 B i 0 s.toArray t n os HH.aa F (by simpa using R)) (bB F u.size) af);have U:K w (sortWorldK dL 3 B i 0 n t os):=u.k Q λk hk=>af
  have HKF:=ae U;clear J Z S u U;generalize sortWorldK dL 3 B i 0 n t os=T at *;go_wp2;go_ret;exact⟨_,rfl,by rw[<- hd,<- R];exact HF.aa,HKF.aa⟩
end
theorem avb{Y:Nat->Prop}{base:Nat}{v:Value}{l:List av}{W:World}(h:W.ownsRow base 46 3 v l.length (l.flatMap dL)):aT Y base 46 bI l v W :=
 ⟨l.map dL,by rw[<- List.flatMap_def];exact h,aj,λw' _=>OB l w'⟩
theorem ach{v:Value}{l:List av}{W:World}(h:ar bI l v W):∃A c,v=.slice A l.length c/\Reads W W.heap.size 3 A l.length (l.flatMap dL):=by
 obtain⟨A,c,rfl,⟨css,j,s⟩,-⟩:=h;have e:css=l.map dL:=by apply List.ext_getElem (by simpa using j.1);intro i u t;rw[List.getElem_map];exact j.2 i (by simpa using t) u
 rw[e,<- List.flatMap_def]at s;exact⟨A,c,rfl,s⟩
theorem apz{M:Nat->Prop}{p:cV}{B:aB}{w:World}(h:bC M p B w)(E:bH B)(hn:B.told.Nodup) :
 Calls prog 133 #[.pointer (some ⟨p.g,0,none⟩)] w λe w'=>∃v',e=.returned v'/\aT (λk=>k<w.heap.size) w.heap.size 46 bI (Bo B) v' w'/\K w w':=by
 have HR:Hid (Bo B=B.st.ab++B.told):=ae rfl
 have hlen:=E.dk.len
 have gA:=E.told
 have q:=h.q
 have hb:=ai.new w 29 #[.pointer (some ⟨p.g,0,none⟩)]
 have Q:K w (w.alloc (.cells #[.pointer (some ⟨p.g,0,none⟩)] 29)):=(K.rf w).al _
 have F:=ae λW=>aqu p.gt W
 have C:=ae λW (k:K w W) j B1 (hb:ai W j 29 #[.pointer (some ⟨p.g,0,none⟩)]) (h1:W.cell? ⟨B1,0,none⟩=some (.map (some p.gt)))=>aoS B.told p.g p.gt j B1 _ W (h.blk.below k h.blk.lt) rfl (h.vA.st k) hb h1 hn gA
 have s:=ae λW (k:K w W)=>ach (h.bL.at k).ab
 generalize Bo B=R at *
 obtain⟨g,gl,gd,gr,gt,vd,vr,vp,vh,vl,vq,va,vt,vf,vw,kr⟩:=p
 simp only at q hb Q F C s
 obtain⟨Aa,ca,rfl,-⟩:=s.aa w (K.rf w)
 clear h E hn
 go_enter func133,ntmps133
 go_upto_region 1 with (fail)
 generalize w.alloc _=i at *
 generalize hgb:w.heap.size=j at hb⊢
 clear hgb
 have y:=hb.cells i (K.rf _) 0
 go_wp2_with fail
 refine (F.aa i).mono ?_
 rintro e Y⟨rfl,rfl⟩
 have H:=ai.new i 93 #[.map (some gt)]
 have G:K i (i.alloc (.cells #[.map (some gt)] 93)):=(K.rf i).al _
 have u:=hb.below G hb.lt
 have gP:=Q.tr G
 generalize World.alloc i _=Y at *
 have X:=ae (C.aa Y gP j i.heap.size u (H.cell 0))
 clear F C hb y H G
 go_wp2_with fail
 refine X.aa.mono ?_
 rintro e t⟨v3,rfl,S,T⟩
 have A:=gP.tr T
 have bD:=u.below T u.lt
 have y:=bD.cells t (K.rf _) 0
 obtain⟨At,ct,rfl,J⟩:=ach S
 obtain⟨Aa2,ca2,D,V⟩:=s.aa t A
 injection D with D _ e3
 subst D e3
 have Z:=ae (aa9 Aa B.st.ab.length ca _ t V (Pb _) af)
 have Jn:=ae λW (k:K t W)=>(J.below k (aG _)).more k.size
 clear X s V J S u
 go_wp2_with fail
 refine Z.aa.mono ?_
 rintro e w4⟨v4,rfl,O,L⟩
 have I:=Jn.aa w4 L
 have N:=A.tr L
 have hz:=A.size
 have iX:=N.size
 clear Z Jn y
 go_wp2_with (at_builtin;refine iC rfl _ _ 32 rfl w.heap.size 46 _ 3 24 uJ _ B.st.ab.length _ rfl (my hz O) _ At B.told.length ct _ rfl I (Pb _) ?p1 iX ?_)
 case p1=>omega
 intro v9 w9 nK _ _ U
 have HF:=ae (show aT (λk=>k<w.heap.size) w.heap.size 46 bI R v9 w9 by
  rw[HR.aa];refine avb ?_;rw[cT,List.flatMap_append];exact nK)
 have kF:K w w9:=N.trans U
 clear nK U O I
 go_wp2
 go_ret
 exact⟨_,rfl,HF.aa,kF⟩
def oD(a b:Vl):Prop:=a.1<b.1∨a.1=b.1/\(a.2.1<b.2.1∨a.2.1=b.2.1/\kZ a.2.2 b.2.2=true)
theorem Oj(a b:Vl):fB a b=-1/\oD a b∨fB a b=0/\a=b∨fB a b=1/\oD b a:=by
 obtain⟨C,na,j⟩:=a;obtain⟨y,A,s⟩:=b;unfold fB gM xN oD;simp only;have t:=aek j s;have i:Op.bytesLess j.toList s.toList=kZ j s:=rfl;rw[i,Kt]at t;by_cases i:C<y
 ·left;simp[i]
 by_cases u:y<C
 ·right;right;simp[i,u]
 have B:C=y:=af;subst B;by_cases i:na<A
 ·left;simp[i]
 by_cases u:A<na
 ·right;right;simp[i,u]
 have B:na=A:=af;subst B;cases h4:kZ j s
 ·cases h5:kZ s j
  ·right;left;rw[h4,h5]at t;simp at t;simp[t]
  ·right;right;simp
 ·left;simp
theorem H8(a:Vl):¬oD a a:=by unfold oD;rw[TD];simp
theorem yN{a b c:Vl}(h:oD a b)(k:oD b c):oD a c:=by
 unfold oD at *;rcases h with h|⟨h,t|⟨t,i⟩⟩ <;> rcases k with k|⟨k,s|⟨s,j⟩⟩
 ·left;omega
 ·left;omega
 ·left;omega
 ·left;omega
 ·exact WM
 ·exact WM
 ·left;omega
 ·exact WM
 ·right;exact⟨af,.inr ⟨af,acs i j⟩⟩
theorem Kj(a b:Vl):fB a b<0↔oD a b:=by
 rcases Oj a b with ⟨h,k⟩|⟨h,k⟩|⟨h,k⟩ <;> rw[h]
 ·simp[k]
 ·subst k;simp[H8]
 ·simp;exact λx=>H8 _ (yN x k)
theorem Im(a b:Vl):0<fB a b↔oD b a:=by
 rcases Oj a b with ⟨h,k⟩|⟨h,k⟩|⟨h,k⟩ <;> rw[h]
 ·simp;exact λx=>H8 _ (yN x k)
 ·subst k;simp[H8]
 ·simp[k]
theorem Oy(a b:Vl):fB a b=0↔a=b:=by
 rcases Oj a b with ⟨h,k⟩|⟨h,k⟩|⟨h,k⟩ <;> rw[h]
 ·simp;rintro rfl;exact H8 _ k
 ·simp[k]
 ·simp;rintro rfl;exact H8 _ k
theorem WN(a b:Vl):fB a b<=0↔oD a b∨a=b:=by rw[<- Kj,<- Oy];omega
theorem PO(a b:Vl):0<=fB a b↔oD b a∨a=b:=by rw[<- Im,<- Oy];omega
theorem adK(a b:ByteArray):preB a b=true↔dh b <+: dh a:=by
 unfold preB;rw[ByteArray.toList_eq,ByteArray.toList_eq];simp only[cz,decide_eq_true_eq,beq_iff_eq,ByteArray.data_extract,Array.toList_extract,List.extract_eq_take_drop,dP,Nat.sub_zero];have j:a.size=(dh a).length:=aj;have i:b.size=(dh b).length:=aj;rw[j,i];constructor
 ·rintro ⟨-,h⟩;show b.data.toList <+: a.data.toList;rw[<- h];exact List.take_prefix _ _
 ·intro h;exact⟨h.length_le,(List.prefix_iff_eq_take.1 h).symm⟩
theorem apA{a b:List UInt8}(h:b <+: a):¬a<b:=by
 obtain⟨t,rfl⟩:=h
 induction b with
 | nil=>simp
 | cons x b i=>simp only[aM,List.cons_lt_cons_iff];intro h;rcases h with h|⟨-,h⟩;exact absurd h aj;exact i h
theorem awr{v a:Vl}(h:jR v a=true)(s:v.2.1=0)(y:a.2.1=0):¬oD v a:=by unfold jR at h;simp only[cz,beq_iff_eq]at h;obtain⟨⟨j,t⟩,u⟩:=h;intro i;unfold oD at i;rw[j,t,s,y]at i;simp at i;rw[Ks]at i;exact apA ((adK _ _).1 u) i
theorem arW{a b c:Vl}(h:jR a b=true)(k:jR b c=true):jR a c=true:=by unfold jR at *;simp only[cz,beq_iff_eq,adK]at *;exact⟨⟨h.1.1,k.1.2⟩,k.2.trans h.2⟩
def Ed(a b:bc):Bool :=
 if a.2.1=1 then iV b a.2.2
 else if a.2.1=3 then decide ((b.2.1=3∨b.2.1=4∨b.2.1=2)/\fB a.2.2 b.2.2<=0)
 else if a.2.1=4 then (if b.2.1=4 then decide (fB a.2.2 b.2.2<=0)else decide ((b.2.1=3∨b.2.1=2)/\fB a.2.2 b.2.2<0))
 else if a.2.1=5 then decide ((b.2.1=5∨b.2.1=6∨b.2.1=2)/\0<=fB a.2.2 b.2.2)
 else if a.2.1=6 then (if b.2.1=6 then decide (0<=fB a.2.2 b.2.2)else decide ((b.2.1=5∨b.2.1=2)/\0<fB a.2.2 b.2.2))
 else if a.2.1=7 then (if b.2.1=7 then jR a.2.2 b.2.2 else if b.2.1=6 then decide (0<=fB a.2.2 b.2.2)else if b.2.1=5 then decide (0<fB a.2.2 b.2.2)else if b.2.1=2 then !jR b.2.2 a.2.2 else false)
 else false
def CI(o:Int):Bool:=decide (1<=o)&&decide (o<=8)
def pA(a b:bc):Bool :=
 if a.1≠b.1∨CI a.2.1=false∨CI b.2.1=false then false
 else if a=b∨b.2.1=8 then true
 else if a.2.1=8∨a.2.2.1≠b.2.2.1 then false
 else Ed a b
def nc(f g:List bc):Bool:=f.all λt=>g.any λu=>pA u t
def oo:List (List bc)->List (List bc)->List (List bc)
 | out,[]=>out
 | out,f :: r=>if out.any (λs=>nc s f)||r.any (λs=>nc s f)then oo out r else oo (out++[f]) r
def si(l:List (List bc)):List (List bc):=oo [] l
def ko(l:List (List bc))(e:List bh):Bool:=l.any λf=>lT f e
theorem avc{t:bc}{v:Vl}(h:iV t v=true)(h8:t.2.1≠8):v.1=t.2.2.1:=by unfold iV at h;simp only[beq_iff_eq,h8,if_false,cz]at h;exact h.1
theorem aiH{v:Vl}(h:iU v.1 v.2.1 v.2.2=true)(k:v.1=2):v.2.1=0:=by unfold iU at h;rw[k]at h;simp at h;exact h.1
theorem atI{a b:bc}{v:Vl}(R:fU a=true)(hb:fU b=true)(N:iU v.1 v.2.1 v.2.2=true)(h:pA a b=true)(i:iV a v=true):iV b v=true:=by
 unfold pA at h;split at h
 ·cases h
 split at h
 ·rename_i A;rcases A with rfl|A
  ·exact i
  ·unfold iV;simp[A]
 rename_i A;split at h
 ·cases h
 rename_i E;have D:a.2.1≠8:=λe=>E (.inl e)
 have H:b.2.1≠8:=λe=>A (.inr e)
 have hk:a.2.2.1=b.2.2.1:=Decidable.byContradiction λe=>E (.inr e)
 have F:=avc i D;have I:=(EV R).2.2.2.2 D;have T:=(EV hb).2.2.2.2 H;obtain⟨na,s,va⟩:=a;obtain⟨Q,t,j⟩:=b;simp only at *;have J:iV (Q,t,j) v=(if t==1 then fB v j==0 else if t==2 then fB v j != 0 else if t==3 then decide (fB v j<0)else if t==4 then decide (fB v j<=0)
  else if t==5 then decide (0<fB v j)else if t==6 then decide (0<=fB v j)else if t==7 then jR v j else false):=by
  unfold iV;simp[H,F,hk]
 have L:iV (na,s,va) v=(if s==1 then fB v va==0 else if s==2 then fB v va != 0 else if s==3 then decide (fB v va<0)else if s==4 then decide (fB v va<=0)
  else if s==5 then decide (0<fB v va)else if s==6 then decide (0<=fB v va)else if s==7 then jR v va else false):=by
  unfold iV;simp[D,F]
 rw[L]at i;have S:=h;unfold Ed at h;simp only at h;split at h
 ·rename_i e;simp only[e,beq_self_eq_true,if_true,beq_iff_eq,Oy]at i;rw[i];exact h
 rw[J];split at h
 ·rename_i e;subst e;simp at i h;rw[Kj]at i;rw[WN]at h;have u:oD v j:=h.2.elim (λk=>yN i k) λk=>k▸i
  have C:=(Kj _ _).2 u;rcases h.1 with rfl|rfl|rfl <;> simp <;> omega
 split at h
 ·rename_i e;subst e;simp at i;rw[WN]at i;split at h
  ·rename_i e;subst e;simp at h⊢;rw[WN]at h⊢;rcases i with i|rfl
   ·exact .inl (h.elim (λk=>yN i k) λk=>k▸i)
   ·exact h
  ·simp at h;rw[Kj]at h;have u:oD v j:=i.elim (λk=>yN k h.2) λk=>k▸h.2
   have C:=(Kj _ _).2 u;rcases h.1 with rfl|rfl <;> simp <;> omega
 split at h
 ·rename_i e;subst e;simp at i h;rw[Im]at i;rw[PO]at h;have u:oD j v:=h.2.elim (λk=>yN k i) λk=>k▸i
  have C:=(Im _ _).2 u;rcases h.1 with rfl|rfl|rfl <;> simp <;> omega
 split at h
 ·rename_i e;subst e;simp at i;rw[PO]at i;split at h
  ·rename_i e;subst e;simp at h⊢;rw[PO]at h⊢;rcases i with i|rfl
   ·exact .inl (h.elim (λk=>yN k i) λk=>k▸i)
   ·exact h
  ·simp at h;rw[Im]at h;have u:oD j v:=i.elim (λk=>yN h.2 k) λk=>k▸h.2
   have C:=(Im _ _).2 u;rcases h.1 with rfl|rfl <;> simp <;> omega
 split at h
 ·rename_i e;subst e;simp at i;have B:=i;unfold jR at B;simp only[cz,beq_iff_eq]at B;have O:v.2.1=0:=aiH N B.1.1;have M:va.2.1=0:=aiH I B.1.2;have P:=awr i O M;have y:oD va v∨va=v:=by
   rcases Oj va v with h|h|h
   ·exact .inl h.2
   ·exact .inr h.2
   ·exact absurd h.2 P
  split at h
  ·rename_i e;subst e;simp;exact arW i h
  split at h
  ·rename_i e;subst e;simp at h⊢;rw[PO]at h⊢;rcases y with y|rfl
   ·exact .inl (h.elim (λk=>yN k y) λk=>k▸y)
   ·exact h
  split at h
  ·rename_i e;subst e;simp at h⊢;rw[Im]at h⊢;exact y.elim (λk=>yN h k) λk=>k▸h
  split at h
  ·rename_i e;subst e;simp at h⊢;intro G;rw[Oy]at G;subst G;rw[i]at h;cases h
  ·cases h
 ·cases h
theorem aqw{a b:bc}{e:List bh}(y:fU a=true)(hb:fU b=true)(u:∀x∈e,mo x=true)(h:pA a b=true)(j:rV a e=true):rV b e=true:=by
 have hn:a.1=b.1:=by
  unfold pA at h;split at h
  ·cases h
  ·rename_i t;exact Decidable.byContradiction λe=>t (.inl e)
 unfold rV at *;rw[<- hn];split at j
 ·rename_i x s;have hm:=List.mem_of_find?_eq_some s;have i:=u x hm;unfold mo at i;simp only[cz]at i;exact atI y hb i.2 h j
 ·cases j
theorem ac3{f g:List bc}{e:List bh}(B:∀t∈f,fU t=true)(hg:∀t∈g,fU t=true)(A:∀x∈e,mo x=true)(h:nc f g=true)(C:lT g e=true):lT f e=true:=by unfold nc at h;unfold lT at *;rw[pU]at *;intro t j;have i:=h t j;rw[List.any_eq_true]at i;obtain⟨u,s,y⟩:=i;exact aqw (hg u s) (B t j) A y (C u s)
theorem TP{e:List bh}(u:∀x∈e,mo x=true):∀ {l out:List (List bc)},(∀f∈l,∀t∈f,fU t=true)->(∀f∈out,∀t∈f,fU t=true)->ko (oo out l) e=(ko out e||ko l e)
 | [],out,_,_=>by simp[oo,ko]
 | f :: r,out,hl,ho=>by
  unfold oo;have y:∀g∈r,∀t∈g,fU t=true:=λg hg=>hl g (by simp[hg])
  split
  ·rename_i i;rw[TP u y ho];have A:lT f e=true->(ko out e||ko r e)=true:=by
    intro hm;rw[Bool.or_eq_true]at i⊢;unfold ko;simp only[List.any_eq_true]at i⊢;rcases i with ⟨s,j,i⟩|⟨s,j,i⟩
    ·exact .inl ⟨s,j,ac3 (ho s j) (hl f aj) u i hm⟩
    ·exact .inr ⟨s,j,ac3 (y s j) (hl f aj) u i hm⟩
   show _=(ko out e||(lT f e||ko r e));cases hm:lT f e
   ·simp
   ·rw[A hm];simp
  ·rw[TP u y (λg hg=>by
    rcases List.mem_append.1 hg with hg|hg
    ·exact ho g hg
    ·simp at hg;subst hg;exact hl g aj)]
   show (ko (out++[f]) e||ko r e)=(ko out e||(lT f e||ko r e));unfold ko;simp[List.any_append,Bool.or_assoc]
theorem arX{l:List (List bc)}{e:List bh}(j:∀f∈l,∀t∈f,fU t=true)(i:∀x∈e,mo x=true):ko (si l) e=ko l e:=by unfold si;rw[TP i j aj];simp[ko]
theorem UD{f:List bc}:∀ {l out:List (List bc)},f∈oo out l->f∈out∨f∈l
 | [],out,h=>.inl h
 | g :: r,out,h=>by
  unfold oo at h;split at h
  ·rcases UD h with h|h
   ·exact .inl h
   ·exact .inr tQ
  ·rcases UD h with h|h
   ·rcases List.mem_append.1 h with h|h
    ·exact .inl h
    ·simp at h;subst h;exact .inr aj
   ·exact .inr tQ
theorem UE:∀ {l out:List (List bc)},(oo out l).length<=out.length+l.length
 | [],out=>by simp[oo]
 | g :: r,out=>by
  unfold oo;split
  ·exact bq UE aj
  ·exact bq UE aU
