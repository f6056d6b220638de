/-
  Entries, records and IDs in memory, and what is known of an argument that is one. Conditions: none.
-/
import Derived.Test.YtoeiinllelipoaaGreatMa03
import Derived.Test.YtoeiinllelipoaaGreatMz
set_option maxRecDepth 100000
set_option maxHeartbeats 16000000
set_option linter.unusedVariables false
set_option linter.unusedSimpArgs false
namespace Go.Proofs.YtoeiinllelipoaaGreat
open Go Go.RowKit Tryz
section
open Go Go.RowKit Go.ChangeShapes Go.WideShapes Go.ChangeAt
def dJ:cF (List bh) where
 size:=1
 rel l cs w:=∃v,cs=[v]/\ik l v w
 len:=by rintro _ _ _⟨v,rfl,_⟩;rfl
 one:=by rintro _ _ _⟨v,rfl,A,c,rfl,_⟩ u i;simp at i;subst i;rfl
 st:=by rintro _ _ _ _⟨v,rfl,h⟩ k;exact⟨v,rfl,mR _ _ _ _ h k⟩
abbrev dL(a:av):List Value:=[.int .i64 a.1,.int .u64 (a.2.1:Int),.int .u64 (a.2.2:Int)]
def df(a:av):Prop:=bU a.1/\a.2.1<18446744073709551616/\a.2.2<18446744073709551616
def bI:cF av where
 size:=3
 rel a cs _:=cs=dL a
 len:=by rintro _ _ _ rfl;rfl
 one:=by rintro _ _ _ rfl u i;simp at i;rcases i with rfl|rfl|rfl <;> rfl
 st:=by rintro _ _ _ _ h _;exact h
abbrev Qk(x:aq)(vf ve:Value):List Value:=[.int .i64 x.kind,.int .i64 x.br,.int .u64 (x.life:Int),.int .u64 (x.cI:Int),.int .i64 x.cl,.int .u64 (x.sub:Int),vf,ve]
abbrev aA(x:aq)(vf ve:Value):Array Value:=#[.int .i64 x.kind,.int .i64 x.br,.int .u64 (x.life:Int),.int .u64 (x.cI:Int),.int .i64 x.cl,.int .u64 (x.sub:Int),vf,ve]
theorem cB{l:List bc}{v:Value}{w:World}(h:eJ l v w):∃A c,v=.slice A l.length c:=by exact Vd
theorem vN{l:List bh}{v:Value}{w:World}(h:ik l v w):∃A c,v=.slice A l.length c:=by exact Vd
theorem az{α:Type}{S:cF α}{l:List α}{v:Value}{w:World}(h:ar S l v w):∃A c,v=.slice A l.length c:=by exact Vd
def aQ:cF aq where
 size:=8
 rel x cs w:=∃vf i,cs=Qk x vf i/\eJ x.f vf w/\ar dJ x.es i w
 len:=by rintro _ _ _⟨vf,i,rfl,_⟩;rfl
 one:=by rintro x _ _⟨vf,i,rfl,⟨A,c,rfl,_⟩,⟨D,d,rfl,_⟩⟩ u hu;exact aeL
 st:=by rintro _ _ _ _⟨vf,i,rfl,j,s⟩ k;exact⟨vf,i,rfl,dB _ _ _ _ j k,aW s k⟩
def cR(x:aq)(v:Value)(w:World):Prop:=∃vf h,v=.agg (aA x vf h)/\eJ x.f vf w/\ar dJ x.es h w
theorem Lh{x:aq}{v:Value}{w w':World}(h:cR x v w)(k:K w w'):cR x v w':=by exact aeM
theorem aw0{x:aq}{v:Value}{w:World}(h:cR x v w):∀W,K w W->cR x v W:=λ_ k=>Lh h k
theorem aun(w:World):cR eW (.agg #[.int .i64 0,.int .i64 0,.int .u64 0,.int .u64 0,.int .i64 0,.int .u64 0,.slice none 0 0,.slice none 0 0]) w :=
 ⟨_,_,rfl,⟨none,0,rfl,Reads.nil _ _ _ _⟩,iu _ _⟩
abbrev eH(x:Rec)(vf ve:Value):Array Value:=#[.int .i64 x.kind,.int .u64 (x.n:Int),.int .i64 x.e.kind,.int .i64 x.e.br,.int .u64 (x.e.life:Int),.int .u64 (x.e.cI:Int),.int .i64 x.e.cl,.int .u64 (x.e.sub:Int),vf,ve,.int .i64 x.br,.int .u64 (x.life:Int),.int .u64 (x.cI:Int)]
def qh(x:Rec)(v:Value)(w:World):Prop:=∃vf h,v=.agg (eH x vf h)/\eJ x.e.f vf w/\ar dJ x.e.es h w
theorem P6{x:Rec}{v:Value}{w w':World}(h:qh x v w)(k:K w w'):qh x v w':=by exact aeM
theorem ajx{x:Rec}{v:Value}{w:World}(h:qh x v w):∀W,K w W->qh x v W:=λ_ k=>P6 h k
def uh:cF Rec where
 size:=13
 rel x cs w:=∃vf h,cs=(eH x vf h).toList/\eJ x.e.f vf w/\ar dJ x.e.es h w
 len:=by rintro _ _ _⟨vf,h,rfl,_⟩;rfl
 one:=by rintro x _ _⟨vf,h,rfl,⟨A,c,rfl,_⟩,⟨D,d,rfl,_⟩⟩ u i;simp at i;rcases i with rfl|rfl|rfl|rfl|rfl|rfl|rfl|rfl|rfl|rfl|rfl|rfl|rfl <;> rfl
 st:=by rintro _ _ _ _⟨vf,h,rfl,j,s⟩ k;exact⟨vf,h,rfl,dB _ _ _ _ j k,aW s k⟩
section
variable {H:Type} {enc:TypeId×Value->H} {w:World} {base:Nat} {r:Reach} {b0:Nat} {spare:Nat->Bool} {held:Bool} {v:Value} {d:DataW H} {p:List MemPlace} {α:Type}
theorem S7{T E:TypeId}(O:prog.underlying T=some (.slice E))(C:Nat)(hC:prog.cellsOf E=C)(s:List Value->Prop)
 (hE:∀(t:Nat) (cs:List Value) (x:DataW H×List MemPlace),cs.length=C->DataW.trod enc prog w base spare held t E cs=some x->s cs)
 {t:Nat} {cs:List Value} {x:DataW H×List MemPlace} (S:DataW.trod enc prog w base spare held t T cs=some x) :
 ∃(A:Option Addr) (n c:Nat) (css:List (List Value)),cs=[.slice A n c]/\css.length=n/\n<=c/\c<=maxLen/\(∀cs∈css,cs.length=C/\s cs)/\(0<C->Reads w w.heap.size C A n css.flatten):=by
 rcases Go.Deep.open_slice O S with ⟨hcs,_⟩|⟨a,len,cap,m,n,D,W,hcs,hb,M,hm,I,hx,hi⟩
 ·exact⟨none,0,0,[],hcs,rfl,aj,aj,aj,λ_=>Reads.nil _ _ _ _⟩
 ·have V:len<=m:=by rw[I];split <;> omega
  have hex:∀i,i<len->∃cs,cs.length=C/\s cs/\∀j,j<C->w.cell? (a.add (i*C+j))=cs[j]?:=by exact ad3
  have key:∀k,k<=len->∃css:List (List Value),css.length=k/\(∀cs∈css,cs.length=C/\s cs)/\∀i j,i<k->j<C->w.cell? (a.add (i*C+j))=(css[i]?.getD [])[j]?:=by exact ad4
  obtain⟨css,h1,h2,h3⟩:=key len (aG _);refine⟨some a,len,cap,css,hcs,h1,M,hm,h2,λhC0=>?_⟩;have G:css.flatten.length=len*C:=ad5;have hfg:∀i j,i<len->j<C->css.flatten[i*C+j]?=(css[i]?.getD [])[j]?:=λi j U hj=>vK C css (λcs hcs=>(h2 cs hcs).1) i j af hj
  refine⟨G,λB=>?_⟩;rw[G]at B;have F:∀q,q<len*C->w.cell? (a.add q)=css.flatten[q]?:=by intro q hq;have e:q=q/C*C+q%C:=ad6;have ot:q/C<len:=Nat.div_lt_of_lt_mul ad7;exact ad8
  have xY:=F 0 B;have Q:∃u,css.flatten[0]?=some u:=⟨css.flatten[0]'af,List.getElem?_eq_getElem af⟩;obtain⟨u,N⟩:=Q;rw[N]at xY;obtain⟨b,J,L⟩:=a;have R:L=none:=by simpa [Addr.add]using World.cell?_spot xY
  subst R;refine⟨b,J,rfl,?_,λj u y=>?_⟩
  ·exact ad9
  ·have hj:j<len*C:=by have:=(List.getElem?_eq_some_iff.1 y).1;omega
   have:=F j hj;rw[Addr.add_lit]at this;rw[this,y]
theorem Di{T E:TypeId}(O:prog.underlying T=some (.slice E))(S:cF α)(i:α->Prop)(C:prog.cellsOf E=S.size)(B:0<S.size)
 (D:∀(t:Nat) (cs:List Value) (x:DataW H×List MemPlace),cs.length=S.size->DataW.trod enc prog w base spare held t E cs=some x->∃y,S.rel y cs w/\i y)
 {t:Nat} {cs:List Value} {x:DataW H×List MemPlace} (R:DataW.trod enc prog w base spare held t T cs=some x):∃v l,cs=[v]/\ar S l v w/\∀y∈l,i y:=by
 obtain⟨A,n,c,css,rfl,N,u,_,G,I⟩:=S7 O S.size C (λcs=>∃y,S.rel y cs w/\i y) D R
 have key:∀css:List (List Value),(∀cs∈css,∃y,S.rel y cs w/\i y)->∃l,Each S l css w/\∀y∈l,i y:=by
  intro css
  induction css with
  | nil=>intro _;exact⟨[],Each.nil _ _,aj⟩
  | cons cs css Q =>
   intro h;obtain⟨y,J,M⟩:=h cs aj;obtain⟨l,j,s⟩:=Q λc L=>h c (by simp[L])
   refine⟨[y]++l,(Each.one J).append j,?_⟩;intro z hz;simp at hz;rcases hz with rfl|hz
   ·exact M
   ·exact s z hz
 obtain⟨l,j,s⟩:=key css λcs F=>(G cs F).2
 have hn:l.length=n:=by rw[<- N];exact j.1.symm
 subst hn
 exact⟨_,l,rfl,⟨A,c,rfl,⟨css,j,I B⟩,u⟩,s⟩
theorem adl{u:Nat}{cs:List Value}{x:DataW H×List MemPlace}(B:DataW.trod enc prog w base spare held u 34 cs=some x):∃l,dJ.rel l cs w/\∀a∈l,mV a:=by
 obtain⟨A,n,c,css,rfl,s,D,E,i,j⟩:=S7 underlying34 4 ak (λcs=>∃y:bh,cs=jQ y/\bU y.2.1/\bU y.2.2.1) (λ_ _ _ _ t=>asd t) B;obtain⟨l,h6,h7,h8⟩:=NQ jQ (λy:bh=>bU y.2.1/\bU y.2.2.1) css λcs C=>(i cs C).2
 have h9:=j au;subst s;rw[<- h6]at h9⊢;refine⟨l,⟨_,rfl,A,c,rfl,?_⟩,h8⟩;rw[h7]at h9;rwa [List.flatMap_def]
theorem adm{u:Nat}{cs:List Value}{x:DataW H×List MemPlace}(B:DataW.trod enc prog w base spare held u 36 cs=some x):∃v l,cs=[v]/\eJ l v w/\∀a∈l,iH a:=by
 obtain⟨A,n,c,css,rfl,s,D,E,i,j⟩:=S7 underlying36 5 ak (λcs=>∃y:bc,cs=dY y/\iH y) (λ_ _ _ _ t=>asg t) B;obtain⟨l,h6,h7,h8⟩:=NQ dY iH css λcs C=>(i cs C).2
 have h9:=j au;subst s;rw[<- h6]at h9⊢;refine⟨_,l,rfl,⟨A,c,rfl,?_⟩,h8⟩;rw[h7]at h9;rwa [List.flatMap_def]
theorem Dj{i:Nat}{cs:List Value}{x:DataW H×List MemPlace}(s:DataW.trod enc prog w base spare held i 3 cs=some x):∃n,cs=[.int .i64 n]/\bU n:=by obtain⟨a,j,_,t⟩:=DataW.trod_int underlying3 s;have:=bounds_i64 t;exact⟨a,j,UN⟩
theorem Ot{i:Nat}{cs:List Value}{x:DataW H×List MemPlace}(s:DataW.trod enc prog w base spare held i 37 cs=some x):∃n:Nat,cs=[.int .u64 (n:Int)]/\n<18446744073709551616:=by obtain⟨a,j,_,t⟩:=DataW.trod_int underlying37 s;have:=bounds_u64 t;exact⟨a.toNat,by rw[j,Int.toNat_of_nonneg this.1],af⟩
theorem aqV{h:Nat}{cs:List Value}{x:DataW H×List MemPlace}(j:DataW.trod enc prog w base spare held h 4 cs=some x):∃b,cs=[.bool b]:=by obtain⟨a,i,_⟩:=DataW.trod_bool underlying4 j;exact⟨a,i⟩
theorem Uk{F:Nat}{cs:List Value}{x:DataW H×List MemPlace}(h:DataW.trod enc prog w base spare held F 46 cs=some x):∃y:av,cs=dL y/\df y:=by
 obtain⟨xs,n,_,_,C,D,t⟩:=DataW.trod_struct underlying46 h
 have E:prog.cellsOf 46=3:=ak
 rw[E]at C
 have G:prog.cellsOf 3=1:=ak
 have J:prog.cellsOf 37=1:=ak
 have L:xs.length=3:=D
 match cs,C with
 | [c0,c1,c2],_ => have i:=t 0 _ rfl;have j:=t 1 _ rfl;have s:=t 2 _ rfl;simp[G,J]at i j s;rw[List.getElem?_eq_getElem af]at i j s;obtain⟨a,A,I⟩:=Dj i;obtain⟨b,u,wb⟩:=Ot j;obtain⟨c,B,wc⟩:=Ot s;simp at A u B;subst A u B;exact⟨(a,b,c),rfl,I,wb,wc⟩
theorem Ul{fuel:Nat}{cs:List Value}{x:DataW H×List MemPlace}(h:DataW.trod enc prog w base spare held fuel 102 cs=some x):∃y:aq,aQ.rel y cs w/\cK y:=by
 obtain⟨xs,n,_,_,G,S,j⟩:=DataW.trod_struct underlying102 h
 have V:prog.cellsOf 102=8:=ak
 rw[V]at G
 have R:prog.cellsOf 3=1:=ak
 have e2:prog.cellsOf 37=1:=ak
 have T:prog.cellsOf 46=3:=ak
 have W:prog.cellsOf 36=1:=ak
 have M:prog.cellsOf 69=1:=ak
 have xJ:xs.length=6:=S
 match cs,G with
 | [c0,c1,c2,c3,c4,c5,c6,c7],_ => have A:=j 0 _ rfl;have D:=j 1 _ rfl;have t:=j 2 _ rfl;have u:=j 3 _ rfl;have B:=j 4 _ rfl;have C:=j 5 _ rfl;simp[R,e2,T,W,M]at A D t u B C;rw[List.getElem?_eq_getElem af]at A D t u B C;obtain⟨k,L,N⟩:=Dj A;obtain⟨i,I,E⟩:=Uk D;obtain⟨c,J,wc⟩:=Dj t;obtain⟨s,es,O⟩:=Ot u;obtain⟨vf,f,F,cC,X⟩:=adm B;obtain⟨ve,l,el,hl,Y⟩:=Di underlying69 dJ (λl=>∀a∈l,mV a) ak au (λ_ _ _ _ U=>adl U) C;obtain⟨Q,i1,Z⟩:=i;simp at L I J es F el;obtain⟨rfl,rfl,rfl⟩:=I;subst L J es F el;exact⟨⟨k,Q,i1,Z,c,s,f,l⟩,⟨c6,c7,rfl,cC,hl⟩,N,E.1,wc,E.2.1,E.2.2,O,X,Y⟩
end
end
def pW:List Value->Nat->List Value->List Value
 | xs,_,[]=>xs
 | xs,q,u :: us=>pW (xs.set q u) (q+1) us
def fN:World->Nat->Nat->List Value->World
 | w,_,_,[]=>w
 | w,g,q,u :: us=>fN (w.setCell ⟨g,q,none⟩ u) g (q+1) us
theorem TG:∀(us xs:List Value) (q:Nat),q+us.length=xs.length->pW xs q us=xs.take q++us
 | [],xs,q,h=>by simp only[pW,List.append_nil];rw[eT (by simp at h;omega)]
 | u :: us,xs,q,h=>by
  simp only[iE]at h;simp only[pW];rw[TG us (xs.set q u) (q+1) (by rw[List.length_set];omega),List.take_add_one];have:(xs.set q u)[q]?=some u:=by rw[List.getElem?_set_self (by omega)]
  rw[this,List.take_set_of_le (aG _)];simp
theorem adn{g:Nat}{e:TypeId}:∀(us:List Value) (cs:Array Value) (q:Nat) (w:World),ai w g e cs->ai (fN w g q us) g e (pW cs.toList q us).toArray
 | [],cs,q,w,h=>by simpa [fN,pW]using h
 | u :: us,cs,q,w,h=>by have:=adn us (cs.setIfInBounds q u) (q+1) _ (h.aR q u);simpa [fN,pW,Array.toList_setIfInBounds]using this
theorem Ve{w:World}{g:Nat}{e:TypeId}{cs:Array Value}{us:List Value}(h:ai w g e cs)(i:us.length=cs.size):ai (fN w g 0 us) g e us.toArray:=by have:=adn us cs 0 w h;rwa [TG us cs.toList 0 aU,dN,aJ]at this
theorem aX.floor{α:Type}{S:cF α}{l:List α}{v:Value}{w:World}{base lo i:Nat}{e:TypeId}(h:aX base lo e S l v w)(t:i<=lo):aX base i e S l v w:=by obtain⟨css,j,s,y⟩:=h;exact⟨css,j,s,λw' u=>y w' (u.more t (λ_ _ h=>h))⟩
theorem fC.up{w w':World}{B:Nat}{v:Value}{l:List bc}(h:fC w B v l)(u:aH B none w w'):fC w' B v l:=by refine⟨h.1,h.2.imp id ?_⟩;exact Vf
theorem Um(l:List bh):∀u∈l.flatMap jQ,u.oneCell'=true:=by intro u i;obtain⟨x,_,h⟩:=List.mem_flatMap.1 i;exact adf x u h
theorem Ic(l:List bc):∀u∈l.flatMap dY,u.oneCell'=true:=by intro u i;obtain⟨x,_,h⟩:=List.mem_flatMap.1 i;simp at h;rcases h with rfl|rfl|rfl|rfl|rfl <;> rfl
theorem dM{α:Type}{S:cF α}{l:List α}{A:Option Addr}{w:World}(h:wL S l A w)(i:Nat)(C:i<l.length)(t:0<S.size) :
 ∃b s cs,A=some ⟨b,s,none⟩/\cs.length=S.size/\(∀W,K w W->S.rel l[i] cs W)/\(∀W,K w W->W.cell? ⟨b,s+i*S.size,none⟩=cs[0]?)/\∀W,K w W->∀j,j<S.size->W.cell? ⟨b,s+i*S.size+j,none⟩=cs[j]?:=by
 obtain⟨b,s,cs,e,hb,u,y,B⟩:=DF h i C t
 have key:∀W,K w W->∀j,j<S.size->W.cell? ⟨b,s+i*S.size+j,none⟩=cs[j]?:=λW k j D=>(k.cell (p:=⟨b,s+i*S.size+j,none⟩) hb).trans (B j D)
 exact⟨b,s,cs,e,u,λW k=>S.st y k,λW k=>key W k 0 t,key⟩
theorem aH.row{w w':World}{g:Nat}{row:Option Nat}(h:w.grownBy w' row)(i:∀b,row=some b->b<g):aH g none w w' :=
 (aH.fM h g).more (aG _) (λk hk _ e=>by have:=i k e.symm;omega)
theorem Vg{w:World}{base g n cap q:Nat}{e:TypeId}{size:Nat}{xs:List Value}(h:w.ownsRow base e size (.slice (some ⟨g,0,none⟩) n cap) n xs)(_:q<xs.length)(u:Value) :
 (w.setCell ⟨g,q,none⟩ u).ownsRow base e size (.slice (some ⟨g,0,none⟩) n cap) n (xs.set q u):=by
 refine⟨by simpa using h.1,.inr ?_⟩
 rcases h.2 with ⟨j,_⟩|⟨E,F,i,C,B,D,s,y,A,t⟩
 ·cases j
 ·injection C with e1 _ e3;injection e1 with e1;injection e1 with e1;subst e1 e3;refine⟨g,cap,i.setIfInBounds q u,rfl,B,(show ai w g e i from D).aR q u,s,y,by simpa using A,?_⟩;rw[Array.toList_setIfInBounds,<- t,List.take_set]
theorem EW{w:World}{base g n cap:Nat}{e:TypeId}{size:Nat}{xs:List Value}(h:w.ownsRow base e size (.slice (some ⟨g,0,none⟩) n cap) n xs):(∀q,q<xs.length->w.cell? ⟨g,q,none⟩=xs[q]?)/\∀q,w.frozen? ⟨g,q,none⟩=false:=by
 rcases h.2 with ⟨u,_⟩|⟨B,C,s,y,F,t,A,D,E,j⟩
 ·cases u
 ·injection y with e1 _ e3;injection e1 with e1;injection e1 with e1;subst e1 e3;refine⟨λq i=>?_,λq=>(show ai w g e s from t).frozen q⟩;rw[(show ai w g e s from t).cell q,<- j];rw[<- j]at i;have:q<n*size:=by simp at i;omega
  rw[List.getElem?_take_of_lt this,Array.getElem?_toList]
theorem N5{α:Type}(n:Nat)(u:α):∀(css:List (List α)),(∀cs∈css,cs.length=n)->∀(k j:Nat) (hk:k<css.length),j<n->css.flatten.set (k*n+j) u=(css.set k ((css[k]).set j u)).flatten
 | [],_,k,j,hk,_=>by simp at hk
 | c :: css,h,0,j,hk,hj=>by have hc:=h c aj;simp only[Nat.zero_mul,fP,List.flatten_cons,cL,List.getElem_cons_zero];rw[List.set_append,if_pos af]
 | c :: css,h,k+1,j,hk,hj=>by have hc:=h c aj;have i:=N5 n u css (λx hx=>h x Ds) k j pc hj;simp only[List.flatten_cons,cM,List.getElem_cons_succ];rw[List.set_append,if_neg OL,<- i];congr 2;rw[hc,Nat.succ_mul];omega
theorem Each.set{α:Type}{S:cF α}{l:List α}{css:List (List Value)}{w:World}(h:Each S l css w)(k:Nat){x:α}{cs:List Value}(t:S.rel x cs w):Each S (l.set k x) (css.set k cs) w:=by
 refine⟨Dr,λi hi s=>?_⟩;by_cases j:k=i
 ·subst j;simpa using t
 ·rw[List.getElem_set_ne j,List.getElem_set_ne j];exact h.2 i Bc (by simpa using s)
structure ah(X:Nat->Prop)(w w':World):Prop where
 os:w'.os=w.os
 tape:w'.tape=w.tape
 output:w'.output=w.output
 size:w.heap.size<=w'.heap.size
 block:∀k,k<w.heap.size->¬X k->w'.heap[k]?=w.heap[k]?
section
variable {X:Nat->Prop} {a b c w w':World}
theorem ah.rf(X:Nat->Prop)(w:World):ah X w w:=⟨rfl,rfl,rfl,aG _,λ_ _ _=>rfl⟩
theorem ah.tr(h:ah X a b)(k:ah X b c):ah X a c :=
 ⟨k.os.trans h.os,k.tape.trans h.tape,k.output.trans h.output,bq h.size k.size,λi j s=>(k.block i (bB j h.size) s).trans (h.block i j s)⟩
theorem ah.bg(h:K w w')(X:Nat->Prop):ah X w w':=⟨h.os,h.tape,h.output,h.size,λi j _=>h.block i j⟩
theorem ah.fM{row:Option Nat}(h:w.grownBy w' row)(j:∀g,row=some g->X g):ah X w w' :=
 ⟨h.os,h.tape,h.output,h.size,λi s t=>h.block i s (λe=>t (j i e.symm))⟩
theorem ah.iK{lo:Nat}{row:Option Nat}(h:ah X w w')(s:∀k,lo<=k->k<w.heap.size->some k≠row->¬X k):aH lo row w w' :=
 ⟨h.os,h.tape,h.output,h.size,λi t j u=>h.block i j (s i t j u)⟩
theorem aH.Ei{lo:Nat}{row:Option Nat}(h:aH lo row w w')(j:∀k,k<lo∨some k=row->X k):ah X w w' :=
 ⟨h.os,h.tape,h.output,h.size,λi t s=>h.block i (Nat.le_of_not_lt λu=>s (j i (.inl u))) t (λe=>s (j i (.inr e)))⟩
theorem Dm{base:Nat}{e:TypeId}{size n:Nat}{v:Value}{xs:List Value}(h:w.ownsRow base e size v n xs)(k:∀g,base<=g->g<w.heap.size->v.ownBlock=some g->w'.heap[g]?=w.heap[g]?):w'.ownsRow base e size v n xs:=by refine⟨h.1,h.2.imp id ?_⟩;rintro ⟨g,cap,s,rfl,j,i,t⟩;exact⟨g,cap,s,rfl,j,(k g j (Array.getElem?_eq_some_iff.1 i).1 rfl).trans i,t⟩
theorem gg{base:Nat}{e:TypeId}{size n:Nat}{v:Value}{xs:List Value}(h:w.ownsRow base e size v n xs){g:Nat}(hg:v.ownBlock=some g):∃i,ai w g e i:=by
 rcases h.2 with ⟨rfl,_⟩|⟨s,cap,i,rfl,_,j,_⟩
 ·cases hg
 ·injection hg with hg;subst hg;exact⟨i,j⟩
theorem ai.ja{g:Nat}{t j:TypeId}{cs s:Array Value}(h:ai w g t cs)(i:ai w g j s):t=j:=by unfold ai at h i;rw[h]at i;injection i with i;injection i
theorem AU{α:Type}{S:cF α}{l:List α}{v:Value}{base:Nat}{e:TypeId}{css:List (List Value)}(h:w.ownsRow base e S.size v l.length css.flatten)(j:Each S l css w):ar S l v w:=by
 have s:=h;rcases h.2 with ⟨rfl,i⟩|⟨g,cap,t,rfl,_,_,hn,_⟩
 ·obtain rfl:l=[]:=List.eq_nil_of_length_eq_zero i;exact iu _ _
 ·exact⟨_,_,rfl,⟨css,j,Reads.xz s⟩,hn⟩
theorem OA{base g n cap:Nat}{e:TypeId}{size:Nat}:∀(us xs:List Value) (q:Nat) (w:World),w.ownsRow base e size (.slice (some ⟨g,0,none⟩) n cap) n xs->q+us.length<=xs.length ->
 (fN w g q us).ownsRow base e size (.slice (some ⟨g,0,none⟩) n cap) n (pW xs q us)
 | [],_,_,_,h,_=>h
 | u :: us,xs,q,w,h,hl=>by simp only[fN,pW];simp only[iE]at hl;exact OA us _ _ _ (Vg h af u) aU
theorem NW(n:Nat):∀(us:List Value) (css:List (List Value)),(∀cs∈css,cs.length=n)->∀(k j:Nat) (hk:k<css.length),j+us.length<=n->pW css.flatten (k*n+j) us=(css.set k (pW (css[k]) j us)).flatten
 | [],css,h,k,j,hk,hj=>by simp[pW]
 | u :: us,css,h,k,j,hk,hj=>by
  simp only[iE]at hj;simp only[pW];rw[N5 n u css h k j hk af];have y:∀cs∈css.set k ((css[k]).set j u),cs.length=n:=by
   intro cs i;rcases List.mem_or_eq_of_mem_set i with t|rfl
   ·exact h cs t
   ·simp;exact h _ (bW hk)
  have s:=NW n us (css.set k ((css[k]).set j u)) y k (j+1) pc af;rw[show k*n+j+1=k*n+(j+1) by omega,s];simp
theorem ah.sets{g:Nat}(j:X g):∀(us:List Value) (q:Nat) (w:World),ah X w (fN w g q us)
 | [],_,_=>ah.rf _ _
 | u :: us,q,w=>by simp only[fN];refine ah.tr (b:=w.setCell ⟨g,q,none⟩ u) ⟨rfl,rfl,rfl,Vh,λi _ h=>Below.heap_setCell w ⟨g,q,none⟩ u i (by rintro rfl;exact h j)⟩ (ah.sets j us _ _)
end
theorem Ti(A:Option Addr)(c:Nat)(l:List bh)(w:World)(B:Nat)(hR:Reads w B 4 A l.length (l.flatMap jQ))(C:B<=w.heap.size) :
 Calls prog 155 #[.slice A l.length c] w λe w'=>e=.returned (.int .i64 (jm l))/\Below w.heap.size w w':=by
 by_cases h1:l.length<1
 ·have h1':(l.length:Int)<1:=af;have HE:Hid (jm l=40):=ae (by simp[jm,fK,show ¬1<=l.length by omega]);exact aeN
 have h1':¬(l.length:Int)<1:=af
 by_cases fT:16<l.length
 ·have ug:(16:Int)<(l.length:Int):=af;have HE:Hid (jm l=40):=ae (by simp[jm,fK];omega);exact aeN
 have ug:¬(16:Int)<(l.length:Int):=af
 obtain⟨b,u,rfl,D,Q⟩:=hR.FG af
 have N:=ae Q
 clear Q hR
 go_enter func155,ntmps155
 go_wp2
 go_step3
 go_wp2_with fail
 go_step3
 go_wp2_with fail
 go_loopw [3,16] (fun m i wr=>∃k:Nat,k<=l.length/\m=.int .i64 (k:Int)/\i=.int .i64 (k:Int)/\Hid (jC none (l.take k)=true)/\Below w.heap.size w wr) (fun _ i _=>l.length-(intOf i).toNat)
 case atStart=>exact⟨0,af,rfl,rfl,ae (by simp[jC]),aN _ _⟩
 case round =>
  obtain⟨k,hk,rfl,rfl,R,hb⟩:=hrel;by_cases H:k<l.length
  ·have eF:(k:Int)<(l.length:Int):=af;obtain⟨E,L,O,M⟩:=N.aa k H;have S:=(hb.cell (p:=⟨b,u+k*4,none⟩) (bB D C)).trans E;have d1:=(hb.cell (p:=⟨b,u+k*4+1,none⟩) (bB D C)).trans L;have d2:=(hb.cell (p:=⟨b,u+k*4+2,none⟩) (bB D C)).trans O;have d3:=(hb.cell (p:=⟨b,u+k*4+3,none⟩) (bB D C)).trans M;clear E L O M;have hz:=hb.size;have hzz:b<wr.heap.size:=af;have pn:Hid (jC none (l.take (k+1))=false->jm l=40):=ae (avv l (k+1));have ze:∀W,Below wr.heap.size wr W->Below w.heap.size w W:=λW h=>hb.trans (h.mono hz)
   have ze:=ae ze;rcases Nat.eq_zero_or_pos k with G|G
   ·have hT:Hid (jC none (l.take (k+1))=mo l[k]):=by subst G;exact ae (at0 l H)
    have U:¬(0:Int)<(k:Int):=af;have X:decide (0<k)=false:=aU;clear G;generalize l[k]=x at *;obtain⟨s,vk,vn,vs⟩:=x;simp only at S d1 d2 d3;go_wp2_with fail
    refine (TC s _).mono ?_;rintro e w'⟨rfl,rfl⟩;cases hn:rU s
    ·exact aeO
    ·go_wp2_with fail
     refine (N4 vk vn vs _).mono ?_;rintro e F⟨rfl,t⟩;have iz:Below wr.heap.size wr F:=((aN _ _).alloc (aG _) _).trans (t.mono aj);have I:=(ai.new wr 84 #[.string s,.int .i64 vk,.int .i64 vn,.string vs]).below t aj;clear t;cases hv:iU vk vn vs
     ·exact aeP
     ·have hch:(mH vk vn vs != 0)=false:=by simp[mH,hv]
      have J:=I.cell 0;simp at J;go_wp2_with fail
      go_quiet (fail);have hr:Hid (jC none (l.take (k+1))=true):=ae (by rw[hT.aa];simp[mo,hn,hv]);exact aeQ
   ·have U:(0:Int)<(k:Int):=af;have X:decide (0<k)=true:=aU;have Z:k-1<l.length:=af;have hT:Hid (jC none (l.take (k+1))=(jC none (l.take k)&&(mo l[k]&&kZ l[k-1].1 l[k].1))):=by refine ae ?_;obtain⟨j,rfl⟩:∃j,k=j+1:=⟨k-1,af⟩;exact at1 l j H
    obtain⟨E,_⟩:=N.aa (k-1) Z;have p0:=(hb.cell (p:=⟨b,u+(k-1)*4,none⟩) (bB D C)).trans E;clear E;generalize l[k-1].1=y at *;generalize l[k]=x at *;obtain⟨s,vk,vn,vs⟩:=x;simp only at S d1 d2 d3 hT;go_wp2_with fail
    refine (TC s _).mono ?_;rintro e w'⟨rfl,rfl⟩;cases hn:rU s
    ·exact aeO
    ·go_wp2_with fail
     refine (N4 vk vn vs _).mono ?_;rintro e F⟨rfl,t⟩;have iz:Below wr.heap.size wr F:=((aN _ _).alloc (aG _) _).trans (t.mono aj);have I:=(ai.new wr 84 #[.string s,.int .i64 vk,.int .i64 vn,.string vs]).below t aj;clear t;cases hv:iU vk vn vs
     ·exact aeP
     ·have hch:(mH vk vn vs != 0)=false:=by simp[mH,hv]
      have J:=I.cell 0;simp at J;have p1:F.cell? ⟨b,u+(k-1)*4,none⟩=some (.string y):=(iz.cell hzz).trans p0;have Y:IntKind.i64.wrap ((k:Int)-1)=(k:Int)-1:=IntWalk.i64_in _ af;have hp1:(1:Int)<=(k:Int):=af;have hp2:((k:Int)-1).toNat=k-1:=af;have hp3:(k:Int)-1<(l.length:Int):=af;cases lO:kZ y s
      ·have V:(!(Op.bytesLess y.toList s.toList))=true:=by unfold kZ at lO;simp[lO]
       have HB:Hid (jm l=40):=ae (pn.aa (by rw[hT.aa];simp[mo,lO]));go_wp2_with fail
       go_quiet (fail);go_wp2;rw[gS];go_ret;exact⟨E7,ze.aa _ (below_drewN iz _)⟩
      ·have V:(!(Op.bytesLess y.toList s.toList))=false:=by unfold kZ at lO;simp[lO]
       have hr:Hid (jC none (l.take (k+1))=true):=ae (by rw[hT.aa,R.aa];simp[mo,hn,hv,lO]);go_wp2_with fail
       go_quiet (fail);clear Y hp2;exact aeQ
  ·have eF:¬(k:Int)<(l.length:Int):=af;have T:k=l.length:=af;have HE:Hid (jm l=0):=ae (at2 l af af (by have:=R.aa;rwa [T]at this));clear T;go_wp2;try rw[gS]
   exact KA
section
variable {l la lb:List bh} {b:List UInt8} {v va vb:Value} {w:World}
theorem abQ(h:ik l v w):Calls prog 155 #[v] w λe w'=>e=.returned (.int .i64 (jm l))/\Below w.heap.size w w':=by obtain⟨A,c,rfl,i⟩:=h;exact Ti A c l w _ i (aG _)
end
theorem abR(a:av)(w:World) :
 Calls prog 168 #[cN a] w λe w'=>e=.returned (.bool (pV a.1))/\K w w':=by
 obtain⟨b,l,s⟩:=a
 have hb:K w (w.alloc (.cells #[.int .i64 b,.int .u64 (l:Int),.int .u64 (s:Int)] 46)):=(K.rf w).al _
 go_enter func168,ntmps168
 go_wp2
 all_goals
  go_ret
  refine⟨?_,hb⟩
  show Ending.returned (.bool _)=Ending.returned (.bool _)
  congr 2
  unfold pV
  simp
  try omega
def E8(x:aq):Bool:=decide (x=eW)
theorem apK(x:aq):E8 x=(decide (x.kind=0)&&(decide (x.br=0)&&decide (x.life=0)&&decide (x.cI=0))&&decide (x.cl=0)&&decide (x.sub=0)&&x.f.isEmpty&&x.es.isEmpty):=by obtain⟨k,b,l,s,c,u,f,es⟩:=x;simp only[E8,eW,aq.mk.injEq];cases f <;> cases es <;> simp[Bool.and_assoc]
theorem abj(x:aq)(v:Value)(w:World)(h:cR x v w) :
 Calls prog 246 #[v] w λe w'=>e=.returned (.bool (E8 x))/\K w w':=by
 obtain⟨vf,t,rfl,j,i⟩:=h
 obtain⟨A,c,rfl⟩:=cB j
 obtain⟨D,d,rfl⟩:=az i
 clear j i
 obtain⟨k,b,l,s,cl,u,f,es⟩:=x
 simp only
 go_enter func246,ntmps246
 go_wp2
 all_goals
  go_ret
  refine⟨?_,(K.rf w).al _⟩
  rw[apK]
  show Ending.returned (.bool _)=Ending.returned (.bool _)
  simp_all [IL]
theorem EX{x:aq}(h:bP x=false):oI x=110:=by simp[oI,h]
theorem Hz{x:aq}(h:bP x=true):oI x=0:=by simp[oI,h]
theorem avG(l:List bh):(jm l==0)=fK l:=by unfold jm;cases fK l <;> rfl
theorem avH(l:List bc):(mc l==0)=okF l:=by unfold mc;cases okF l <;> rfl
theorem Df{α:Type}(p:α->Bool)(l:List α)(k:Nat)(h:k<l.length):(l.take (k+1)).all p=((l.take k).all p&&p l[k]):=by exact aea
theorem Hu{α:Type}(p:α->Bool)(l:List α)(k:Nat)(h:(l.take k).all p=false):l.all p=false:=by
 cases hl:l.all p with
 | false=>rfl
 | true => rw[pU]at hl;rw[List.all_eq_false]at h;obtain⟨x,i,j⟩:=h;exact absurd (hl x (lE i)) j
theorem JU(x:aq)(v:Value)(w:World)(h:cR x v w) :
 Calls prog 91 #[v] w λe w'=>e=.returned (.int .i64 (oI x))/\K w w':=by
 obtain⟨vf,S,rfl,H,B⟩:=h
 obtain⟨A,c,rfl⟩:=cB H
 obtain⟨D,d,e0,B,W⟩:=B
 obtain rfl:=e0
 obtain⟨k,b,l,s,cl,u,f,es⟩:=x
 simp only at H B W⊢
 have L:=ai.new w 102 (aA ⟨k,b,l,s,cl,u,f,es⟩ (.slice A f.length c) (.slice D es.length d))
 have y:K w (w.alloc (.cells (aA ⟨k,b,l,s,cl,u,f,es⟩ (.slice A f.length c) (.slice D es.length d)) 102)):=(K.rf w).al _
 have hg:w.heap.size<(w.alloc (.cells (aA ⟨k,b,l,s,cl,u,f,es⟩ (.slice A f.length c) (.slice D es.length d)) 102)).heap.size:=aj
 generalize xO:oI ⟨k,b,l,s,cl,u,f,es⟩=E
 go_enter func91,ntmps91
 go_wp2_with fail
 generalize w.alloc _=M at *
 generalize w.heap.size=g at L hg⊢
 have qx:=L.cells
 have N:=dB _ _ _ _ H y
 have Z:=DE B y
 clear H B
 refine (abR (b,l,s) M).mono ?_
 rintro e w2⟨rfl,I⟩
 have bw:=y.tr I
 cases hh:pV b
 ·have HE:Hid (E=110):=ae (by rw[<- xO];exact EX (by simp[bP,hh]));exact aeR
 by_cases hc0:cl<0
 ·exact aeS
 by_cases hc1:32<=cl
 ·exact aeS
 by_cases G:k=1
 ·subst G;have HE:Hid (E=if (decide (u=0)&&f.isEmpty&&decide (es.length<=8)&&es.all fK)=true then 0 else 110):=ae (by
   rw[<- xO];simp[oI,bP,hh,show 0<=cl by omega,show cl<32 by omega])
  clear xO;go_upto_region 8 with (fail);go_cut [3]from 27 to 41 (fun v wc=>v=.bool (decide (u=0)&&f.isEmpty&&decide (es.length<=8))/\wc=w2)
  case first =>
   have e1:((u:Int)==0)=decide (u=0):=by
    by_cases h:u=0
    ·subst h;rfl
    ·simp[h]
   have V:=IL f;by_cases R:u=0;rotate_left
   ·go_wp2;go_meet
    case rel=>simp[R]
   subst R;by_cases t:f=[];rotate_left
   ·go_wp2;go_meet
    case rel=>simp[t]
   subst t;by_cases h8:es.length<=8
   ·have T:(es.length:Int)<=8:=af;go_wp2;go_meet
    case rel=>simp[h8]
   ·have T:¬(es.length:Int)<=8:=af;go_wp2;go_meet
    case rel=>simp[h8]
  case rest =>
  obtain⟨rfl,rfl⟩:=hcut;have h8:Hid ((decide (u=0)&&f.isEmpty&&decide (es.length<=8))=true->es.length<=8):=ae aj;generalize (decide (u=0)&&f.isEmpty&&decide (es.length<=8))=J at *;go_wp2_with fail
  go_loopw [3,4] (fun mv iv wr=>∃(m:Bool) (j:Nat),mv=.bool m/\iv=.int .i64 (j:Int)/\j<=es.length/\Hid (m=(J&&(es.take j).all fK))/\K M wr) (fun _ i _=>es.length-(intOf i).toNat)
  case atStart=>exact⟨J,0,rfl,rfl,af,ae aj,I⟩
  case round =>
   obtain⟨m,j,rfl,rfl,hj,hm,kr⟩:=hrel;cases m
   ·have HB:Hid (E=110):=ae (by
     rw[HE.aa,if_neg];have hm:=hm.aa;cases J
     ·simp
     ·simp only[Bool.true_and]at hm;have:=Hu fK es j hm.symm;rw[this];simp)
    go_wp2;go_ret;exact⟨E7,y.tr kr⟩
   have h88:es.length<=8:=h8.aa (by have:=hm.aa.symm;simp only[cz]at this;exact this.1);by_cases Q:j<es.length
   ·have ba:(j:Int)<(es.length:Int):=af;obtain⟨U,X,cs,rfl,aO,hcl,⟨S,rfl,Y⟩,hcell⟩:=DF Z j Q au;have d0:wr.cell? ⟨U,X+j,none⟩=some S:=by exact OZ
    have zh:=mR _ _ _ _ Y kr;go_wp2_with fail
    refine (abQ zh).mono ?_;rintro e O⟨rfl,k3⟩;have e3:=avG es[j];go_wp2;go_roundw
    case rel=>exact⟨fK es[j],j+1,rfl,bO,af,ae (by rw[Df fK es j Q,<- Bool.and_assoc,<- hm.aa];rfl),kr.tr k3⟩
    case measure=>simp[intOf];omega
   ·have ba:¬(j:Int)<(es.length:Int):=af;have HB:Hid (E=0):=ae (by
     have hm:=hm.aa;rw[eT af]at hm;rw[HE.aa,if_pos hm.symm])
    go_wp2;go_ret;exact⟨E7,y.tr kr⟩
 by_cases C:k=3
 ·subst C;have HE:Hid (E=if (f.isEmpty&&es.isEmpty)=true then 0 else 110):=ae (by
   rw[<- xO];simp[oI,bP,hh,show 0<=cl by omega,show cl<32 by omega])
  clear xO;cases t:f.isEmpty
  ·have V:((f.length:Int)==0)=false:=by rw[IL,t]
   have HB:Hid (E=110):=ae (by rw[HE.aa,t];rfl);go_wp2;go_ret;exact⟨E7,bw⟩
  obtain rfl:f=[]:=by simpa using t
  cases F4:es.isEmpty
  ·exact aeT
  obtain rfl:es=[]:=by simpa using F4
  have HB:Hid (E=0):=ae fL;clear F4 t;go_wp2_with fail
  refine (abN (dB _ _ _ _ N I)).mono ?_;rintro e O⟨rfl,k3⟩;rw[show mc []=0 from rfl];exact Vi
 by_cases F:k=2
 ·subst F;have HE:Hid (E=if (es.isEmpty&&okF f)=true then 0 else 110):=ae (by
   rw[<- xO];simp[oI,bP,hh,show 0<=cl by omega,show cl<32 by omega])
  clear xO;cases F4:es.isEmpty
  ·exact aeT
  obtain rfl:es=[]:=by simpa using F4
  clear F4;go_wp2_with fail
  refine (abN (dB _ _ _ _ N I)).mono ?_;rintro e O⟨rfl,k3⟩;have e3:=avH f;cases hok:okF f
  ·have HB:Hid (E=110):=ae Vj;rw[hok]at e3;clear HE;exact Vi
  ·have HB:Hid (E=0):=ae Vj;rw[hok]at e3;clear HE;exact Vi
 have HE:Hid (E=110):=ae (by
  rw[<- xO];exact EX (by simp[bP,G,F,C]))
 clear xO
 have g1:(k==1)=false:=by simpa using G
 have g2:(k==2)=false:=by simpa using F
 have g3:(k==3)=false:=by simpa using C
 clear G F C
 go_wp2
 go_ret
 exact⟨fL,bw⟩
theorem sR{P:Program}{Q:Exit->Act->World->Prop}{id:Nat}{ops:Array Oper}{i:Act}{w:World}(l:List (Value->World->Prop))(s:List (List Nat×List (Nat×Nat)))
 (n:Nat) (hn:i.tmps.size=n) (hm:P.follows .mixedOrders=true) (y:o8 ops n=true) (u:qP ops s=true)
 (st:∀f∈l,∀v w w',f v w->Below w.heap.size w w'->f v w')
 (t:mS P i (K w) (tab l) 0 ops.toList s)
 (fin:∀(V:Nat->Value) (W:World),K w W->(∀j,j<ops.size->tab l j (V j) W)->Q .normal (bF V ops.toList 0 i) W) :
 (Code.region id ops true).wp P Q i w :=
 S6 (K w) l s n hn hm y u (λ_ _ h k=>h.tr k) (K.rf w).drew st t fin
def eV(a:av):List UInt8:=aD (bf a.1)++(aD a.2.1++aD a.2.2)
theorem Tc(l:List UInt8)(v:Value)(a:av)(w:World)(h:sl l v w)(hl:l.length<=900000000)(X:df a) :
 Calls prog 171 #[v,cN a] w λe w'=>∃B,e=.returned B/\Own w' w.heap.size 5 B (l++eV a)/\K w w':=by
 obtain⟨A,c,rfl,T⟩:=h
 obtain⟨b,i,t⟩:=a
 obtain⟨G,u,y⟩:=X
 simp only at G u y
 have p0:=cG (bf b) (fI b)
 have p1:=cG i u
 have C:=ai.new w 46 #[.int .i64 b,.int .u64 (i:Int),.int .u64 (t:Int)]
 have j:K w (w.alloc (.cells #[.int .i64 b,.int .u64 (i:Int),.int .u64 (t:Int)] 46)):=(K.rf w).al _
 have J:=(T.below j (aG _)).more j.size
 go_enter func171,ntmps171
 go_wp2_with fail
 generalize w.alloc _=I at *
 have qx:=C.cells
 rw[AY b]
 refine (vJ A _ c l (bf b) (fI b) I _ J (aG _) af).mono ?_
 rintro e R⟨Z,rfl,Y,s⟩
 obtain⟨O,c2,rfl,V⟩:=(eN Y)
 have fg:(l++aD (bf b)).length<=900000009:=aU
 generalize E:(l++aD (bf b)).length=N at *
 clear E
 go_wp2_with fail
 refine (vJ O N c2 _ i u R _ V (aG _) af).mono ?_
 rintro e M⟨v3,rfl,S,L⟩
 replace s:=s.tr L
 obtain⟨W,c3,rfl,D⟩:=(eN S)
 have rz:(l++aD (bf b)++aD i).length<=900000018:=aU
 generalize Q:(l++aD (bf b)++aD i).length=U at *
 clear Q
 go_wp2_with fail
 refine (vJ W U c3 _ t y M _ D (aG _) af).mono ?_
 rintro e w4⟨v4,rfl,H,F⟩
 have kk:=j.tr (s.tr F)
 go_wp2
 go_ret
 refine⟨_,rfl,rS ?_ H (by simp[eV]),kk⟩
 exact bq j.size s.size
theorem N6(g:Nat)(l:List UInt8)(wr:Bool)(n:Nat)(w:World)(h:Rd w g l wr)(hn:n<=1000000) :
 Calls prog 212 #[.pointer (some ⟨g,0,none⟩),.int .i64 (n:Int)] w λe w'=>e=.returned (.int .i64 ((min (aC l wr).1 n:Nat):Int))/\nD g (aC l wr).2.1 (aC l wr).2.2 w w':=by
 have i:=ae (sQ g l wr w h)
 have s:=qO l wr
 clear h
 generalize aC l wr=a at *
 obtain⟨x,B,A⟩:=a
 simp only at i s⊢
 by_cases y:n<x
 ·have u:(n:Int)<(x:Int):=af;rw[show min x n=n by omega];go_enter func212,ntmps212;go_wp2_with fail
  refine i.aa.mono ?_;rintro e t⟨rfl,j⟩;go_wp2;go_ret;exact⟨by first|rfl|simp<;>omega,j⟩
 ·have u:¬(n:Int)<(x:Int):=af;rw[show min x n=x by omega];go_enter func212,ntmps212;go_wp2_with fail
  refine i.aa.mono ?_;rintro e t⟨rfl,j⟩;go_wp2;go_ret;exact⟨by first|rfl|simp<;>omega,j⟩
theorem ai.went{w w':World}{g b:Nat}{t:TypeId}{cs:Array Value}{l:List UInt8}{wr:Bool}(h:ai w b t cs)(k:nD g l wr w w')(i:b≠g):ai w' b t cs:=h.grown k.2 (by simpa using i)
theorem Rd.al{w:World}{g:Nat}{l:List UInt8}{wr:Bool}(h:Rd w g l wr)(o:Obj):Rd (w.alloc o) g l wr:=h.below ((K.rf w).al o) h.lt
theorem Rd.set{w:World}{g b:Nat}{l:List UInt8}{wr:Bool}(h:Rd w g l wr)(hb:g<b)(i:Nat)(u:Value):Rd (w.setCell ⟨b,i,none⟩ u) g l wr:=h.below (Below.setCell (aN b w) (aG _) u) hb
def Lx:zC av:=λl wr =>
 (((min (aC l wr).1 16:Nat),(aC (aC l wr).2.1 (aC l wr).2.2).1,(aC (aC (aC l wr).2.1 (aC l wr).2.2).2.1 (aC (aC l wr).2.1 (aC l wr).2.2).2.2).1),
  (aC (aC (aC l wr).2.1 (aC l wr).2.2).2.1 (aC (aC l wr).2.1 (aC l wr).2.2).2.2).2)
theorem ao5(g:Nat)(l:List UInt8)(wr:Bool)(w:World)(h:Rd w g l wr) :
 Calls prog 213 #[.pointer (some ⟨g,0,none⟩)] w λe w'=>e=.returned (cN (Lx l wr).1)/\nD g (Lx l wr).2.1 (Lx l wr).2.2 w w':=by
 have ij:=h.lt
 have T:=ai.new w 46 #[.int .i64 0,.int .u64 0,.int .u64 0]
 have hm0:w.grownBy (w.alloc (.cells #[.int .i64 0,.int .u64 0,.int .u64 0] 46)) (some g):=Dh (Dl w _) _
 have Y:=h.al (.cells #[.int .i64 0,.int .u64 0,.int .u64 0] 46)
 have hz1:w.heap.size<(w.alloc (.cells #[.int .i64 0,.int .u64 0,.int .u64 0] 46)).heap.size:=aj
 have E:=λW hW=>N6 g l wr 16 W hW af
 unfold Lx
 generalize aC l wr=a at *
 obtain⟨x,V,eG⟩:=a
 simp only at E⊢
 have C:=sQ g V eG
 generalize aC V eG=a at *
 obtain⟨y,l2,wr2⟩:=a
 simp only at C⊢
 have B:=sQ g l2 wr2
 generalize aC l2 wr2=a at *
 obtain⟨z,l3,BV⟩:=a
 simp only at B⊢
 replace E:=ae E
 replace C:=ae C
 replace B:=ae B
 go_enter func213,ntmps213
 go_wp2_with fail
 generalize w.alloc _=w1 at *
 refine (E.aa w1 Y).mono ?_
 rintro e J⟨rfl,A⟩
 have N:=T.went A af
 have O:=nU hm0 A.2
 have hz2:=A.2.size
 have pC:=A.1
 clear A T hm0 Y h
 go_wp2_with fail
 have R:=ai.new J 46 #[.int .i64 ((min x 16:Nat):Int),.int .u64 0,.int .u64 0]
 have dz:=N.alloc (.cells #[.int .i64 ((min x 16:Nat):Int),.int .u64 0,.int .u64 0] 46)
 have Z:=pC.al (.cells #[.int .i64 ((min x 16:Nat):Int),.int .u64 0,.int .u64 0] 46)
 have rE:=Dh O (.cells #[.int .i64 ((min x 16:Nat):Int),.int .u64 0,.int .u64 0] 46)
 clear pC N O
 generalize J.alloc _=w3 at *
 generalize hh:J.heap.size=h at *
 clear hh
 refine (C.aa w3 Z).mono ?_
 rintro e w4⟨rfl,u⟩
 have D:=R.went u af
 have M:=dz.went u af
 have Q:=nU rE u.2
 have hn4:=u.1
 have j:=D.cell 1
 have z1:=D.frozen 1
 simp at j
 clear u R dz rE Z
 go_upto_region 3 with (fail)
 have U:=D.aR 1 (.int .u64 (y:Int))
 have fq:=M.far (p:=⟨h,1,none⟩) aU (.int .u64 (y:Int))
 have L:=xv Q (p:=⟨h,1,none⟩) aU (.int .u64 (y:Int))
 have X:=hn4.set (b:=h) af 1 (.int .u64 (y:Int))
 clear D M Q hn4 j z1
 generalize w4.setCell _ _=w5 at *
 go_wp2_with fail
 refine (B.aa w5 X).mono ?_
 rintro e w6⟨rfl,t⟩
 have s:=U.went t af
 have kp:=fq.went t af
 have x9:=nU L t.2
 have F5:=t.1
 have G:=s.cell 0
 have j:=s.cell 1
 have F:=s.cell 2
 have z2:=s.frozen 2
 simp at G j F
 clear t U fq L X
 go_upto_region 4 with (fail)
 have I:=s.aR 2 (.int .u64 (z:Int))
 have i:=kp.far (p:=⟨h,2,none⟩) aU (.int .u64 (z:Int))
 have I9:=xv x9 (p:=⟨h,2,none⟩) aU (.int .u64 (z:Int))
 have Q0:=F5.set (b:=h) af 2 (.int .u64 (z:Int))
 clear s kp x9 F5 G j F z2
 generalize w6.setCell _ _=w7 at *
 have G:=I.cell 0
 have j:=I.cell 1
 have F:=I.cell 2
 simp at G j F
 have r0:=i.cell 0
 have r1:=i.cell 1
 have r2:=i.cell 2
 have y0:=i.frozen 0
 have y1:=i.frozen 1
 have y2:=i.frozen 2
 simp at r0 r1 r2
 go_wp2
 have H:=((i.aR 0 (.int .i64 ((min x 16:Nat):Int))).aR 1 (.int .u64 (y:Int))).aR 2 (.int .u64 (z:Int))
 have e0:=H.cell 0
 have S:=H.cell 1
 have e2:=H.cell 2
 simp at e0 S e2
 refine bodyPost_ret (v:=cN ((min x 16:Nat),y,z)) (by simp[results,results213,go_sem,e0,S,e2]) rfl ?_
 refine⟨rfl,?_,?_⟩
 ·exact ((Q0.set af _ _).set af _ _).set af _ _
 ·exact xv (xv (xv I9 aj _) aj _) aj _
theorem auo(x:aq):(oI x==0)=bP x:=by unfold oI;cases bP x <;> rfl
theorem acz(x:Rec)(v:Value)(w:World)(h:qh x v w) :
 Calls prog 214 #[v] w λe w'=>e=.returned (.bool (gh x))/\K w w':=by
 obtain⟨vf,u,rfl,B,he⟩:=h
 obtain⟨k,n,x,b,l,s⟩:=x
 simp only at B he
 have C:=ai.new w 190 (eH ⟨k,n,x,b,l,s⟩ vf u)
 have k1:K w (w.alloc (.cells (eH ⟨k,n,x,b,l,s⟩ vf u) 190)):=(K.rf w).al _
 have HO:Hid (gh ⟨k,n,x,b,l,s⟩=if k=1 then E8 x&&wh ⟨k,n,x,b,l,s⟩else if k=2 then bP x&&wh ⟨k,n,x,b,l,s⟩else if k=3 then decide (n=0)&&bP x&&wh ⟨k,n,x,b,l,s⟩
  else if k=4∨k=5 then pV b&&decide (n=0)&&E8 x else false):=ae rfl
 have E:Hid (wh ⟨k,n,x,b,l,s⟩=(decide (b=0)&&decide (l=0)&&decide (s=0))):=ae rfl
 generalize gh ⟨k,n,x,b,l,s⟩=R at *
 have zE:∀W,K w W->cR x (.agg (aA x vf u)) W:=λW k=>⟨vf,u,rfl,dB _ _ _ _ B k,aW he k⟩
 clear B he
 go_enter func214,ntmps214
 go_upto_region 1 with (fail)
 generalize w.alloc _=D at *
 generalize w.heap.size=g at C⊢
 have G:=C.cells
 have kk:=K.rf D
 generalize wh ⟨k,n,x,b,l,s⟩=m at *
 go_cut [0,3]from 4 to 7 (fun _ v wc=>v=.bool m/\wc=D)
 case first =>
  go_wp2;all_goals
   go_meet
   case rel=>(refine⟨?_,rfl⟩;rw[E.aa];clear G HO;simp_all)
 case rest =>
 obtain⟨rfl,rfl⟩:=hcut
 clear E
 by_cases t:k=1
 ·subst t;rw[if_pos rfl]at HO;go_wp2_with fail
  refine (abj x _ _ (zE _ k1)).mono ?_;rintro e w2⟨rfl,k2⟩;have bw:=k1.tr k2;cases he:E8 x
  ·exact aeU
  ·exact aeV
 by_cases i:k=3
 ·subst i;rw[if_neg au,if_neg au,if_pos rfl]at HO;by_cases hn:n=0;rotate_left
  ·have A:((n:Int) != 0)=true:=by simpa using hn
   have HR:Hid (R=false):=ae aeW;clear HO;exact Dt
  subst hn;have A:(((0:Nat):Int) != 0)=false:=aj;exact aeX
 by_cases j:k=2
 ·subst j;rw[if_neg au,if_pos rfl]at HO;exact aeX
 have N:(k==1)=false:=by simpa using t
 have Q:(k==2)=false:=by simpa using j
 have J:(k==3)=false:=by simpa using i
 rw[if_neg t,if_neg j,if_neg i]at HO
 clear t j i
 have H:(k=4∨k=5)∨(¬k=4/\¬k=5):=af
 rcases H with y|⟨h4,h5⟩
 ·rw[if_pos y]at HO;have I:(k==4||k==5)=true:=by simpa using y
  go_upto_region 6 with (fail);rcases y with rfl|rfl;all_goals
   clear I
   go_wp2_with fail
   refine (abR (b,l,s) _).mono ?_
   rintro e w2⟨rfl,k2⟩
   have bw:=k1.tr k2
   cases hh:pV b
   ·have HR:Hid (R=false):=ae (by rw[HO.aa,hh];rfl);exact O0
   by_cases hn:n=0
   rotate_left
   ·have A:((n:Int)==0)=false:=by simpa using hn
    have HR:Hid (R=false):=ae aeW;exact O0
   subst hn
   have A:(((0:Nat):Int)==0)=true:=aj
   have HR:Hid (R=E8 x):=ae (by rw[HO.aa,hh];simp)
   go_wp2_with fail
   refine (abj x _ _ (zE _ bw)).mono ?_
   rintro e O⟨rfl,F⟩
   replace bw:=bw.tr F
   go_wp2
   go_ret
   exact⟨fo,bw⟩
 ·have HR:Hid (R=false):=ae (by rw[HO.aa,if_neg (by omega)]);have L:(k==4)=false:=E5;have M:(k==5)=false:=KC;clear HO h4 h5;exact Dt
theorem ao6(A:Option Addr)(c:Nat)(l:List bh)(w:World)(B:Nat)(O:Reads w B 4 A l.length (l.flatMap jQ))(y:B<=w.heap.size)(L:∀x∈l,bU x.2.1/\bU x.2.2.1) :
 Calls prog 172 #[.slice A l.length c] w λe w' =>
  ∃v',e=.returned (.tuple #[v',.int .i64 (jm l)])/\Own w' w.heap.size 5 v' (Bz l)/\Below w.heap.size w w':=by
 have hch:=ae (Ti A c l w B O y)
 cases hok:fK l
 ·have HE:Hid (jm l=40):=ae O1;have HR:Hid (Bz l=[]):=ae (by simp[Bz,hok]);clear hok;have hne:(jm l != 0)=true:=fL;go_enter func172,ntmps172;exact aeY
 ·have HE:Hid (jm l=0):=ae O1;have HR:Hid (Bz l=jb l):=ae (by simp[Bz,hok]);have hne:(jm l != 0)=false:=fL;obtain⟨h1,fT,hL⟩:=Oq hok;have ya:=ae λk=>adk l k hok L
  have HA:=ae (U2 hL);have HI:=ae L;have HS:=ae (asn l);have YS:=ae O;clear hok hL L O;go_enter func172,ntmps172;go_wp2_with fail
  refine hch.aa.mono ?_;rintro e w1⟨rfl,aO⟩;go_wp2_with fail
  refine (vJ none 0 0 [] l.length af w1 0 (Reads.nil _ _ _ _) af af).mono ?_;rintro e w2⟨v2,rfl,R,hb2⟩;have FF:=aO.trans (hb2.mono aO.size);rw[aJ]at R;have ho:=rS aO.size R rfl;clear R aO hb2;go_wp2_with fail
  go_loopw [5,19] (fun o i wr=>∃k:Nat,k<=l.length/\i=.int .i64 (k:Int)/\Own wr w.heap.size 5 o (aD l.length++(l.take k).flatMap ke)/\Below w.heap.size w wr) (fun _ i _=>l.length-(intOf i).toNat)
  case atStart=>exact⟨0,af,rfl,KB,FF⟩
  case round =>
   obtain⟨k,hk,rfl,hok,hb⟩:=hrel;by_cases D:k<l.length
   ·have eF:(k:Int)<(l.length:Int):=af;obtain⟨b,F,rfl,E,hcell⟩:=YS.aa.FG af;obtain⟨e0,V,e2,X⟩:=hcell k D;have d0:=(hb.cell (p:=⟨b,F+k*4,none⟩) (bB E y)).trans e0;have d1:=(hb.cell (p:=⟨b,F+k*4+1,none⟩) (bB E y)).trans V;have d2:=(hb.cell (p:=⟨b,F+k*4+2,none⟩) (bB E y)).trans e2;have d3:=(hb.cell (p:=⟨b,F+k*4+3,none⟩) (bB E y)).trans X;clear e0 V e2 X hcell;have hz:=hb.size;have S:=TV (HA.aa _ (bW D));have M:=(HI.aa _ (bW D)).2;have Y:=ae (HS.aa k D);have Z:=ya.aa k;generalize l[k]=x at *;obtain⟨s,t,u,j⟩:=x;simp only at d0 d1 d2 d3 S M Y;obtain⟨ayw,aC8⟩:=S;generalize (l.take k).flatMap ke=T at *;obtain⟨A1,c1,rfl,J⟩:=hok.slice;have hlm:(aD l.length++T).length<=2000:=Z;generalize pB:(aD l.length++T).length=m1 at J Z⊢;clear pB hok;have QV:=λW=>run_bytes_of_string (P:=prog) W 9 42 5 s underlying9 underlying42 underlying5
    go_wp2_with fail
    have U:=ai.new wr 84 #[.string s,.int .i64 t,.int .i64 u,.string j];have N:Below wr.heap.size wr ((wr.alloc (.cells #[.string s,.int .i64 t,.int .i64 u,.string j] 84)).alloc (.cells (bytesRow s (grownCap (wr.alloc (.cells #[.string s,.int .i64 t,.int .i64 u,.string j] 84)) s.size 0 5)) 5 ((bytesRow s (grownCap (wr.alloc (.cells #[.string s,.int .i64 t,.int .i64 u,.string j] 84)) s.size 0 5)).size,(bytesRow s (grownCap (wr.alloc (.cells #[.string s,.int .i64 t,.int .i64 u,.string j] 84)) s.size 0 5)).size+1))).drew:=(((aN _ _).alloc (aG _) _).alloc aj _).drew;have rD:=(J.below N (aG _)).more (B':=wr.heap.size+1+1) af;refine (N0 A1 _ m1 c1 s.size _ _ (dh s) _ (wr.heap.size+1+1) rD (Reads.ajR _ s _ _ _ (wr.heap.size+1) aj) aj af af).mono ?_;rintro e C⟨v3,rfl,G,H⟩;have I:=((U.alloc (.cells (bytesRow s (grownCap (wr.alloc (.cells #[.string s,.int .i64 t,.int .i64 u,.string j] 84)) s.size 0 5)) 5 ((bytesRow s (grownCap (wr.alloc (.cells #[.string s,.int .i64 t,.int .i64 u,.string j] 84)) s.size 0 5)).size,(bytesRow s (grownCap (wr.alloc (.cells #[.string s,.int .i64 t,.int .i64 u,.string j] 84)) s.size 0 5)).size+1))).drew).below H aU;have Q:Below wr.heap.size wr C:=N.trans (H.mono aU);have q1:=I.cell 1;have q2:=I.cell 2;have q3:=I.cell 3;simp at q1 q2 q3;clear N H J rD U QV;have G:Own C wr.heap.size 5 v3 (aD l.length++T++(aD s.size++dh s)):=rS aU G aeZ;obtain⟨A3,c3,rfl,uA⟩:=G.slice;have hpl:=cG s.size af;have rE:(aD l.length++T++(aD s.size++dh s)).length<=3000:=by simp only[cT]at hlm⊢;simp;omega
    generalize (aD l.length++T++(aD s.size++dh s)).length=m3 at *;clear G;go_wp2_with fail
    refine (abh A3 m3 c3 _ t u j C C.heap.size uA (aG _) af af M.1 M.2).mono ?_;rintro e w4⟨v4,rfl,cU,hb4⟩;have Mh:Below w.heap.size w w4:=(hb.trans (Q.mono hz)).trans (hb4.mono (bq hz Q.size));have cU:=rS (bq hz Q.size) cU rfl;rw[<- Y.aa]at cU;exact ae0
   ·have eF:¬(k:Int)<(l.length:Int):=af;have ho:Own wr w.heap.size 5 u5 (Bz l):=by rw[HR.aa];unfold jb;rwa [eT af]at hok
    exact ae1
section
variable {l la lb:List bh} {b:List UInt8} {v va vb:Value} {w:World}
theorem aqW(h:ik l v w)(s:∀x∈l,bU x.2.1/\bU x.2.2.1):Calls prog 172 #[v] w λe w' =>
 ∃i,e=.returned (.tuple #[i,.int .i64 (jm l)])/\Own w' w.heap.size 5 i (Bz l)/\Below w.heap.size w w':=by
 obtain⟨A,c,rfl,j⟩:=h
 exact ao6 A c l w _ j (aG _) s
end
