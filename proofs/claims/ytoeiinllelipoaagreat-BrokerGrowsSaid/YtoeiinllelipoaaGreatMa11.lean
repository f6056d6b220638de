/-
  A region that draws its order: first operations that only make memory, in any order, each one's fact found on the way; then operations that follow one another, free in what they change. Conditions: none.
-/
import Derived.Test.YtoeiinllelipoaaGreatMa10
import Derived.Laws.BitsAllLaws
import Derived.Test.YtoeiinllelipoaaGreatMz
set_option maxRecDepth 100000
set_option maxHeartbeats 16000000
set_option linter.unusedVariables false
set_option linter.unusedSimpArgs false
namespace Go.Proofs.YtoeiinllelipoaaGreat
open Go Go.RowKit Tryz
section
variable {P:Program} {Q:Exit->Act->World->Prop}
def aV(P:Program)(h:Act)(w0:World)(i:List (Value->World->Prop)->Prop):List Oper->List (List Nat×List (Nat×Nat))->List (Value->World->Prop)->Prop
 | [],_,t=>i t
 | _ :: _,[],_=>False
 | o :: r,x :: xs,t=>∃φ:Value->World->Prop,(∀v w w',φ v w->Below w.heap.size w w'->φ v w') /\
  (∀(V:Nat->Value) (w:World),K w0 w->(∀j∈x.1,tab t j (V j) w)->if aL V o.guard=true then aS P φ w ((execOp (aw x.2 h V) (ay o.op o.type)).run P w)else φ undef w) /\
  aV P h w0 i r xs (t++[φ])
theorem aV.op{i:Act}{w0:World}{s:List (Value->World->Prop)->Prop}{o:Oper}{r:List Oper}{x:List Nat×List (Nat×Nat)}{xs:List (List Nat×List (Nat×Nat))}{t:List (Value->World->Prop)}
 (φ:Value->World->Prop) (st:∀v w w',φ v w->Below w.heap.size w w'->φ v w')
 (h:∀(V:Nat->Value) (w:World),K w0 w->(∀j∈x.1,tab t j (V j) w)->if aL V o.guard=true then aS P φ w ((execOp (aw x.2 i V) (ay o.op o.type)).run P w)else φ undef w)
 (k:aV P i w0 s r xs (t++[φ])):aV P i w0 s (o :: r) (x :: xs) t:=⟨φ,st,h,k⟩
def eA(V:Nat->Value)(w:World):Nat->List (Value->World->Prop)->Prop
 | _,[]=>True
 | k,φ :: r=>φ (V k) w/\eA V w (k+1) r
def bu(P:Program)(h:Act)(E:(Nat->Value)->World->Prop):Nat->List Oper->List (List Nat×List (Nat×Nat))->(Nat->Value)->World->Prop
 | _,[],_,V,w=>E V w
 | _,_ :: _,[],_,_=>False
 | k,o :: r,x :: xs,V,w=>if aL V o.guard=true then mm P (λv w'=>bu P h E (k+1) r xs (bj V k v) w') ((execOp (aw x.2 h V) (ay o.op o.type)).run P w)else bu P h E (k+1) r xs (bj V k undef) w
def axc(h:List (List Nat×List (Nat×Nat)))(m n:Nat):Bool :=
 (List.range n).all λk=>decide (k<m)||(List.range k).all λj=>match h[k]? with
  | none=>false
  | some x=>x.1.contains j||x.1.any (lG h j n)
theorem acH{ops:Array Oper}{n:Nat}{D:Act}{w0:World}{A:List (Value->World->Prop)->Prop} :
 ∀(l:List Oper) (u:List (List Nat×List (Nat×Nat))) (t:List (Value->World->Prop)),
  aV P D w0 A l u t->(∀i o x,ops[t.length+i]?=some o->l[i]?=some o->u[i]?=some x->∀j∈x.1,j<t.length+i)->(∀i o,l[i]?=some o->ops[t.length+i]?=some o) ->
  (∀φ∈t,∀v w w',φ v w->Below w.heap.size w w'->φ v w') ->
  ∃s,A (t++s)/\s.length=l.length/\(∀φ∈t++s,∀v w w',φ v w->Below w.heap.size w w'->φ v w') /\
   ∀i o x,l[i]?=some o->u[i]?=some x->XE P D (K w0) (tab (t++s)) (t.length+i) o.op o.type o.guard x.1 x.2:=by
 intro l
 induction l with
 | nil =>
  intro u t h _ _ B;have G:A t:=by cases u <;> exact h
  exact⟨[],by simpa using G,rfl,by simpa using B,λi o x L=>by simp at L⟩
 | cons o r S =>
  intro u t h E F B
  cases u with
  | nil=>exact False.elim h
  | cons x xs =>
   obtain⟨φ,st,Q,I⟩:=h
   have e:(t++[φ]).length=t.length+1:=aj
   obtain⟨s,M,U,R,H⟩:=S xs (t++[φ]) I
    (λi o' C h1 h2 h3 j y=>by
     rw[e]at h1⊢;have:=E (i+1) o' C (by rwa [show t.length+(i+1)=t.length+1+i by omega]) qN Pg j y;omega)
    (λi o' h1=>by
     rw[e,show t.length+1+i=t.length+(i+1) by omega];exact F (i+1) o' Ip)
    (fun ψ T=>by
     rcases List.mem_append.1 T with h1|h1
     ·exact B ψ h1
     ·simp at h1;subst h1;exact st)
   refine⟨φ :: s,by simpa using M,by simp[U],by simpa using R,?_⟩
   intro i o' C h1 h2
   have J:∀j,j<t.length->tab (t++φ :: s) j=tab t j:=by intro j y;unfold tab;funext v w;simp only[List.getD_eq_getElem?_getD];rw[List.getElem?_append_left y]
   have N:tab (t++φ :: s) t.length=φ:=by unfold tab;funext v w;simp[List.getD_eq_getElem?_getD]
   cases i with
   | zero => simp at h1 h2;subst h1 h2;intro V w hk O;rw[Nat.add_zero,N];exact Q V w hk λj y=>by have W:=E 0 o x (F 0 o aj) aj aj j y;have:=O j y;rwa [J j af]at this
   | succ i => have:=H i o' C Ip qN;rw[e]at this;rw[show t.length+(i+1)=t.length+1+i by omega];simpa using this
theorem VK{V:Nat->Value}{w:World}:∀(s t:List (Value->World->Prop)),(∀j,t.length<=j->j<t.length+s.length->tab (t++s) j (V j) w)->eA V w t.length s:=by
 intro s
 induction s with
 | nil=>intro t _;trivial
 | cons φ s ih =>
  intro t h;refine⟨?_,?_⟩
  ·have:=h t.length (aG _) aj;unfold tab at this;exact VL
  ·have:=ih (t++[φ]) (λj u i=>by
    simp at u i;have:=h j af aU;simpa using this)
   simpa using this
def Fy(fr:List Nat)(h:List (List Nat×List (Nat×Nat)))(m n:Nat):Bool :=
 fr.all (λj=>decide (j<m))&&(List.range n).all λk=>decide (k<m)||(List.range k).all λj=>fr.contains j||match h[k]? with
  | none=>false
  | some x=>x.1.contains j||x.1.any (lG h j n)
theorem N7{ops:Array Oper}{fr:List Nat}{t:List (List Nat×List (Nat×Nat))}{m:Nat}(B:qP ops t=true)(A:Fy fr t m ops.size=true){L:Nat->Bool}(G:Lf ops L){k:Nat}(hk:m<=k){o:Oper}(y:ops[k]?=some o)(H:∀j∈ahead o,L j=true):∀j,j<k->j∉fr->L j=true:=by
 intro j I F
 have E:k<ops.size:=(Array.getElem?_eq_some_iff.1 y).1
 simp only[Fy,cz]at A
 have s:=List.all_eq_true.1 A.2 k (List.mem_range.2 E)
 simp only[Bool.or_eq_true,decide_eq_true_eq]at s
 rcases s with s|s
 ·omega
 have h:=List.all_eq_true.1 s j (List.mem_range.2 I)
 simp only[Bool.or_eq_true,List.contains_iff_mem]at h
 have h:=h.resolve_left F
 cases hx:t[k]? with
 | none=>rw[hx]at h;cases h
 | some x =>
  rw[hx]at h;simp only[Bool.or_eq_true,List.contains_iff_mem,List.any_eq_true]at h;have C:=List.all_eq_true.1 B (o,k) (List.mem_zipIdx_iff_getElem?.2 (by rw[Array.getElem?_toList];exact y));simp only[hx,cz]at C;have D:∀i∈x.1,L i=true:=λi u=>H i (by simpa using List.all_eq_true.1 C.1.1 i u)
  rcases h with h|⟨i,u,h⟩
  ·exact D j h
  ·exact Ie B G _ _ h (D i u)
def ajC(P:Program)(h:Act)(ops:Array Oper)(s:List (List Nat×List (Nat×Nat)))(fr:List Nat)(cs:Nat->Value)(j:Nat):Prop :=
 ∃o x,ops[j]?=some o/\s[j]?=some x/\o.guard=none/\(∀i∈x.1,i∈fr/\i<j)/\∀(V:Nat->Value) (W:World),(∀i∈x.1,V i=cs i)->(execOp (aw x.2 h V) (ay o.op o.type)).run P W=.ok (.value (cs j)) W
def vF(fr:List Nat)(cs V:Nat->Value)(j:Nat):Value:=if j∈fr then cs j else V j
theorem aaR{id:Nat}{ops:Array Oper}{a0:Act}{w:World}(fr:List Nat)(cs:Nat->Value)(m:Nat)(pl:List (List Nat×List (Nat×Nat)))
 (n:Nat) (hn:a0.tmps.size=n) (hm:P.follows .mixedOrders=true) (hok:o8 ops n=true) (hpl:qP ops pl=true) (gA:Fy fr pl m ops.size=true) (X:m<=ops.size) (iM:∀j∈fr,ajC P a0 ops pl fr cs j)
 (h:aV P a0 w (λt=>∀(V:Nat->Value) (W:World),K w W->eA V W 0 t->bu P a0 (λV W=>Q .normal (bF V ops.toList 0 a0) W) m (ops.toList.drop m) (pl.drop m) V W) (ops.toList.take m) pl []) :
 (Code.region id ops true).wp P Q a0 w:=by
 have tv:∀j∈fr,j<m:=by exact afS
 have G:∀(i:Nat) (o:Oper),ops[i]?=some o->∃x:List Nat×List (Nat×Nat),pl[i]?=some x/\∀j∈x.1,j∈ahead o:=by exact VM
 obtain⟨s,D,U,hst,hq⟩:=acH (ops:=ops) (n:=n) (ops.toList.take m) pl [] h
  (λi o x h1 h2 h3 j hj=>by
   simp only[List.length_nil,fP]at h1⊢;obtain⟨y,hy,R⟩:=G i o h1;rw[hy]at h3;injection h3 with h3;subst h3;have:=R j hj;have h5:=List.all_eq_true.1 hok (o,i) (List.mem_zipIdx_iff_getElem?.2 (by rw[Array.getElem?_toList];exact h1));simp only[cz]at h5;have h6:=List.all_eq_true.1 h5.1.1.1.1 j this;simpa using h6)
  (λi o h1=>by
   simp only[List.length_nil,fP];rw[<- Array.getElem?_toList];by_cases hi:i<m
   ·rwa [List.getElem?_take_of_lt hi]at h1
   ·rw[List.getElem?_take_eq_none af]at h1;cases h1)
  aj
 simp only[aJ,List.length_nil,fP]at D hst hq
 have Y:s.length=m:=by rw[U];simp;omega
 have XH:∀(b j:Nat),j<b->j∈fr->∀W,K w W->tab s j (cs j) W:=by exact afT
 let T:Nat->(Nat->Value)->World->Prop:=λi V W=>bu P a0 (λV W=>Q .normal (bF V ops.toList 0 a0) W) i (ops.toList.drop i) (pl.drop i) V W
 have hT:∀i o x,ops[i]?=some o->pl[i]?=some x->∀V W,T i V W=(if aL V o.guard=true then mm P (λv w'=>T (i+1) (bj V i v) w') ((execOp (aw x.2 a0 V) (ay o.op o.type)).run P W)else T (i+1) (bj V i undef) W):=by exact afU
 let I:(Nat->Bool)->(Nat->Value)->World->Prop:=λL V W =>
  ((∀i,m<=i->i<ops.size->L i=false)->K w W/\∀j,L j=true->tab s j (V j) W) /\
  (∀k,m<k->k<=ops.size->(∀j,j<k->j∉fr->L j=true)->(∀j,k<=j->j<ops.size->L j=false)->T k (vF fr cs V) W) /\
  (∀j∈fr,L j=true->V j=cs j)
 refine EO I n hn hm hok ⟨λ_=>⟨(K.rf w).drew,λ_ hj=>Ff⟩,(λk hk _ hL _=>afV),(λj _ h=>vR)⟩ ?_ ?_
 ·intro k o ho L V W ni hcl hal hI;have hlt:k<ops.size:=(Array.getElem?_eq_some_iff.1 ho).1;obtain⟨x,hx,J⟩:=G k o ho;have H:∀j∈ahead o,vF fr cs V j=V j:=λj hj=>by exact afW
  have hgd:∀j b,o.guard=some (j,b)->j∈ahead o:=λj b hg=>by exact afX
  have C:∀V',(∀j∈ahead o,V' j=V j)->execOp (tj ops a0 V o) o=execOp (aw x.2 a0 V') (ay o.op o.type):=by exact afY
  have E:∀V',(∀j∈ahead o,V' j=V j)->wants V o=aL V' o.guard:=by exact afZ
  by_cases zV:k∈fr
  ·obtain⟨o',Z,B,A,hg,S,hrun⟩:=iM k zV;rw[ho]at B;injection B with B;subst B;rw[hx]at A;injection A with A;subst A;rw[E V λ_ _=>rfl,hg,if_pos (show aL V none=true from rfl),C V λ_ _=>rfl,hrun V W (λi hi=>hI.2.2 i (S i hi).1 (hal i (J i hi)))];have F:=tv k zV;have Ck:vF fr cs (bj V k (cs k))=vF fr cs V:=by exact af0
   refine⟨λh1=>?_,λi h1 h2 h3 h4=>?_,λj hj hL=>?_⟩
   ·obtain⟨hk,hp⟩:=hI.1 (λi h2 h3=>af1);refine⟨hk,λj hj=>?_⟩;exact af2
   ·exact af3
   ·exact af4
  have Qo:∀v,∀j∈fr,dw L k j=true->bj V k v j=cs j:=λv j hj hL=>by exact af5
  by_cases F:k<m
  ·rw[E V λ_ _=>rfl,C V λ_ _=>rfl];have Rh:∀i,m<=i->i<ops.size->L i=false:=by exact af6
   obtain⟨hk,hp⟩:=hI.1 Rh;have aks:∀i,m<=i->i<ops.size->dw L k i=false:=by exact af7
   have u:=hq k o x (by rw[List.getElem?_take_of_lt F,Array.getElem?_toList];exact ho) hx V W hk (λj hj=>hp j (hal j (J j hj)));have next:∀v w',tab s k v w'->Below W.heap.size W w'->I (dw L k) (bj V k v) w':=by
    intro v w' hv hb;refine⟨λ_=>⟨hk.tr hb,λj hj=>?_⟩,λi h1 h2 h3 _=>?_,Qo v⟩
    ·exact af8
    ·exact af9
   by_cases zn:aL V o.guard=true
   ·rw[if_pos zn]at u⊢;generalize (execOp (aw x.2 a0 V) (ay o.op o.type)).run P W=q at *;cases q with
    | ok nx w' =>
     cases nx <;> simp only[aS]at u <;> simp only[mm]
     case value v=>exact next _ _ u.1 u.2
     case skip=>exact next _ _ u.1 u.2
     case enter f args => refine u.mono ?_;exact aga
    | halt x w'=>simp only[aS]at u
   ·rw[if_neg zn]at u⊢;exact next _ _ u (aN _ _)
  ·rw[E (vF fr cs V) H,C (vF fr cs V) H];have hall:=N7 hpl gA hcl af ho hal;have kK:∀i,k<=i->i<ops.size->L i=false:=by exact agb
   have zW:T k (vF fr cs V) W:=by
    by_cases O:k=m
    ·subst O;obtain⟨hk,hp⟩:=hI.1 kK;refine D (vF fr cs V) W hk ?_;exact agc
    ·exact hI.2.1 k af af hall kK
   exact agd
 ·intro V W hI;have Ck:∀j,j<ops.size->vF fr cs V j=V j:=λj hj=>by exact age
  have M:∀(V':Nat->Value) (l:List Oper) (k:Nat) (a:Act),(∀j,k<=j->j<k+l.length->V' j=V j)->bF V' l k a=bF V l k a:=by exact agf
  have ajY:=M (vF fr cs V) ops.toList 0 a0 (λj _ h=>Ck j rT);by_cases tz:m<ops.size
  ·exact agh
  ·have N:m=ops.size:=af;subst N;obtain⟨hk,hp⟩:=hI.1 (λi h1 h2=>af);have h9:=D V W hk (by
    have:=VK (V:=V) (w:=W) s [] (λj _ h2=>by
     simp at h2;exact hp j aU)
    simpa using this)
   rw[List.drop_eq_nil_of_le aj]at h9;exact h9
theorem eM{id:Nat}{ops:Array Oper}{i:Act}{w:World}(m:Nat)(s:List (List Nat×List (Nat×Nat)))
 (n:Nat) (hn:i.tmps.size=n) (hm:P.follows .mixedOrders=true) (E:o8 ops n=true) (B:qP ops s=true) (D:axc s m ops.size=true) (A:m<=ops.size)
 (h:aV P i w (λt=>∀(V:Nat->Value) (W:World),K w W->eA V W 0 t->bu P i (λV W=>Q .normal (bF V ops.toList 0 i) W) m (ops.toList.drop m) (s.drop m) V W) (ops.toList.take m) s []) :
 (Code.region id ops true).wp P Q i w :=
 aaR [] (λ_=>undef) m s n hn hm E B (by
  simp only[Fy,List.all_nil,Bool.true_and];refine List.all_eq_true.2 λk hk=>?_
  have u:=List.all_eq_true.1 D k hk;simp only[Bool.or_eq_true,decide_eq_true_eq]at u⊢;refine u.imp (λh=>h) λy=>List.all_eq_true.2 λj F=>?_
  have C:=List.all_eq_true.1 y j F;simp only[List.contains_nil,Bool.false_or];exact C) A (λ_ h=>vR) h
end
def RW(h g:Nat)(n:Int)(l:List UInt8)(wr i:Bool)(W:World):Prop:=ai W h 174 #[.pointer (some ⟨g,0,none⟩),.int .i64 n,.bool i]/\Rd W g l wr/\g<h
abbrev XW(gw g:Nat):Nat->Prop:=λk=>k=g∨k=gw
section
variable {gw g:Nat} {n:Int} {l l':List UInt8} {wr bd wr' Ji:Bool} {W W':World} {X:Nat->Prop}
theorem RW.st(h:RW gw g n l wr bd W)(k:K W W'):RW gw g n l wr bd W':=⟨h.1.below k h.1.lt,h.2.1.below k h.2.1.lt,h.2.2⟩
theorem RW.lt(h:RW gw g n l wr bd W):gw<W.heap.size:=h.1.lt
theorem ai.bT{b:Nat}{t:TypeId}{cs:Array Value}(h:ai W b t cs)(u:ah X W W')(hb:¬X b):ai W' b t cs:=(u.block b h.lt hb).trans h
theorem ah.went(H:nD g l' wr' W W')(h:X g):ah X W W':=ah.fM H.2 (by rintro k e;cases e;exact h)
theorem RW.went(h:RW gw g n l wr bd W)(H:nD g l' wr' W W'):RW gw g n l' wr' bd W':=⟨h.1.went H (by have:=h.2.2;omega),H.1,h.2.2⟩
theorem ah.b6{b:Nat}(h:X b)(i:Nat)(u:Value):ah X W (W.setCell ⟨b,i,none⟩ u):=ah.sets h [u] i W
theorem RW.bad(h:RW gw g n l wr bd W):RW gw g n l wr true (W.setCell ⟨gw,2,none⟩ (.bool true)) :=
 ⟨h.1.aR 2 _,h.2.1.set h.2.2 2 _,h.2.2⟩
theorem RW.far(h:RW gw g n l wr bd W){b:Nat}(hb:gw<b)(i:Nat)(u:Value):RW gw g n l wr bd (W.setCell ⟨b,i,none⟩ u) :=
 ⟨h.1.far aU u,h.2.1.set (by have:=h.2.2;omega) i u,h.2.2⟩
theorem ah.al(X:Nat->Prop)(W:World)(o:Obj):ah X W (W.alloc o):=ah.bg ((K.rf W).al o) X
theorem ah.fresh{a:World}(u:ah X a W){b:Nat}(hb:a.heap.size<=b)(i:Nat)(v:Value):ah X a (W.setCell ⟨b,i,none⟩ v) :=
 ⟨u.os,u.tape,u.output,by simpa [World.setCell]using u.size,λk hk j=>(Below.heap_setCell W ⟨b,i,none⟩ v k aU).trans (u.block k hk j)⟩
end
theorem Hw(j g:Nat)(n:Int)(l:List UInt8)(wr t:Bool)(i:Nat)(w:World)(h:RW j g n l wr t w)(_:i<18446744073709551616) :
 Calls prog 102 #[.pointer (some ⟨j,0,none⟩),.int .u64 (i:Int)] w λe w' =>
  e=.returned (.int .u64 ((lH i l wr t).1:Int))/\RW j g n (lH i l wr t).2.1 (lH i l wr t).2.2.1 (lH i l wr t).2.2.2 w'/\ah (XW j g) w w':=by
 have y:=ae (sQ g l wr w h.2.1)
 unfold lH
 generalize aC l wr=a at *
 obtain⟨x,F,E⟩:=a
 simp only at y⊢
 have q:=h.1.cell
 by_cases B:x<i
 ·have D:¬(i:Int)<=(x:Int):=af;rw[if_pos B];simp only;go_enter func102,ntmps102;go_wp2_with fail
  refine y.aa.mono ?_;rintro e C⟨rfl,u⟩;have s:=h.went u;have A:=ah.went (X:=XW j g) u (.inl rfl);clear q;go_wp2;go_ret;exact⟨rfl,s,A⟩
 ·have D:(i:Int)<=(x:Int):=af;rw[if_neg B];simp only;go_enter func102,ntmps102;go_wp2_with fail
  refine y.aa.mono ?_;rintro e C⟨rfl,u⟩;have s:=h.went u;have A:=ah.went (X:=XW j g) u (.inl rfl);have q:=s.1.cell;have z:=s.1.frozen;go_wp2;go_ret;exact⟨rfl,s.bad,A.tr (ah.b6 (X:=XW j g) (.inr rfl) 2 _)⟩
theorem aaU(j g:Nat)(n:Int)(l:List UInt8)(wr s:Bool)(w:World)(h:RW j g n l wr s w) :
 Calls prog 109 #[.pointer (some ⟨j,0,none⟩)] w λe w' =>
  e=.returned (.agg (bZ (ib l wr s).1))/\RW j g n (ib l wr s).2.1 (ib l wr s).2.2.1 (ib l wr s).2.2.2 w'/\ah (XW j g) w w':=by
 have t:=λW hW=>Hw j g n l wr s 16 W hW af
 have hlt:=yR 16 af l wr s
 unfold ib DR lW BH
 generalize lH 16 l wr s=a at *
 obtain⟨x,Y,eG,eZ⟩:=a
 simp only at t hlt⊢
 have C:=sQ g Y eG
 generalize aC Y eG=a at *
 obtain⟨y,l2,wr2⟩:=a
 simp only at C⊢
 have B:=sQ g l2 wr2
 generalize aC l2 wr2=a at *
 obtain⟨z,l3,BV⟩:=a
 simp only at B⊢
 rw[show ((16:Nat):Int)=16 from rfl]at t
 replace t:=ae t
 replace C:=ae C
 replace B:=ae B
 have hwx:IntKind.i64.wrap (x:Int)=(x:Int):=KX
 have L:=ai.new w 46 #[.int .i64 0,.int .u64 0,.int .u64 0]
 have h0:=h.st ((K.rf w).al (.cells #[.int .i64 0,.int .u64 0,.int .u64 0] 46))
 have S:=ah.al (XW j g) w (.cells #[.int .i64 0,.int .u64 0,.int .u64 0] 46)
 have M:=h.lt
 have hgg:=h.2.2
 clear h
 go_enter func109,ntmps109
 go_wp2_with fail
 generalize w.alloc _=w1 at *
 refine (t.aa w1 h0).mono ?_
 rintro e D⟨rfl,T,F⟩
 have hz1:w.heap.size<w1.heap.size:=L.lt
 have Q:=L.bT F Be
 have R:=S.tr F
 have hz2:=F.size
 have U:=ai.new D 46 #[.int .i64 (x:Int),.int .u64 0,.int .u64 0]
 have dz:=Q.alloc (.cells #[.int .i64 (x:Int),.int .u64 0,.int .u64 0] 46)
 have E:=T.st ((K.rf D).al (.cells #[.int .i64 (x:Int),.int .u64 0,.int .u64 0] 46))
 have ME:=R.tr (ah.al (XW j g) D (.cells #[.int .i64 (x:Int),.int .u64 0,.int .u64 0] 46))
 clear h0 L S Q T F R t
 go_upto_region 2 with (fail)
 generalize D.alloc _=w3 at *
 generalize D.heap.size=i at *
 have q:=E.1.cell
 go_wp2_with fail
 refine (C.aa w3 E.2.1).mono ?_
 rintro e w4⟨rfl,A⟩
 have h4:=E.went A
 have O:=dz.went A af
 have I:=U.went A af
 have Z:=ME.tr (ah.went (X:=XW j g) A (.inl rfl))
 clear q E dz U ME A C
 have q:=I.cell
 have H:=I.frozen
 go_upto_region 3 with (fail)
 have V:ai (w4.setCell ⟨i,1,none⟩ (.int .u64 (y:Int))) i 46 #[.int .i64 (x:Int),.int .u64 (y:Int),.int .u64 0]:=I.aR 1 _
 have G:=h4.far (b:=i) af 1 (.int .u64 (y:Int))
 have fq:=O.far (p:=⟨i,1,none⟩) aU (.int .u64 (y:Int))
 have Ri:=Z.fresh (b:=i) af 1 (.int .u64 (y:Int))
 clear q H I h4 O Z
 generalize w4.setCell _ _=w5 at *
 have q:=G.1.cell
 go_wp2_with fail
 refine (B.aa w5 G.2.1).mono ?_
 rintro e w6⟨rfl,u⟩
 have h6:=G.went u
 have kp:=fq.went u af
 have J:=V.went u af
 have u06:=Ri.tr (ah.went (X:=XW j g) u (.inl rfl))
 clear q G fq V Ri u B
 have q:=J.cell
 have H:=J.frozen
 go_upto_region 4 with (fail)
 have jc:ai (w6.setCell ⟨i,2,none⟩ (.int .u64 (z:Int))) i 46 #[.int .i64 (x:Int),.int .u64 (y:Int),.int .u64 (z:Int)]:=J.aR 2 _
 have h7:=h6.far (b:=i) af 2 (.int .u64 (z:Int))
 have N:=kp.far (p:=⟨i,2,none⟩) aU (.int .u64 (z:Int))
 have u07:=u06.fresh (b:=i) af 2 (.int .u64 (z:Int))
 clear q H J h6 kp u06
 generalize w6.setCell _ _=w7 at *
 have q:=jc.cell
 have y1:=N.cell
 have H:=N.frozen
 go_wp2
 have dQ:=((N.aR 0 (.int .i64 (x:Int))).aR 1 (.int .u64 (y:Int))).aR 2 (.int .u64 (z:Int))
 have h9:=((h7.far (b:=w.heap.size) M 0 (.int .i64 (x:Int))).far (b:=w.heap.size) M 1 (.int .u64 (y:Int))).far (b:=w.heap.size) M 2 (.int .u64 (z:Int))
 have Ze:=((u07.fresh (b:=w.heap.size) (aG _) 0 (.int .i64 (x:Int))).fresh (b:=w.heap.size) (aG _) 1 (.int .u64 (y:Int))).fresh (b:=w.heap.size) (aG _) 2 (.int .u64 (z:Int))
 have e9:=dQ.cell
 refine bodyPost_ret (v:=.agg #[.int .i64 (x:Int),.int .u64 (y:Int),.int .u64 (z:Int)]) (by simp[results,results109,go_sem,e9]) rfl ?_
 exact⟨rfl,h9,Ze⟩
theorem aoa(t g:Nat)(n:Int)(l:List UInt8)(wr u:Bool)(w:World)(h:RW t g n l wr u w) :
 Calls prog 105 #[.pointer (some ⟨t,0,none⟩)] w λe w' =>
  e=.returned (.agg (fk (mZ l wr u).1))/\RW t g n (mZ l wr u).2.1 (mZ l wr u).2.2.1 (mZ l wr u).2.2.2 w'/\ah (XW t g) w w':=by
 have C:=λW N=>aaU t g n l wr u W N
 unfold mZ DR lW
 generalize ib l wr u=a at *
 obtain⟨x,L,O,I⟩:=a
 simp only at C⊢
 have A:=λW N=>Hw t g n L O I 2 W N af
 have hlt:=yR 2 af L O I
 generalize lH 2 L O I=a at *
 obtain⟨y,l2,wr2,bd2⟩:=a
 simp only at A hlt⊢
 rw[show ((2:Nat):Int)=2 from rfl]at A
 replace C:=ae C
 replace A:=ae A
 obtain⟨b,hb⟩:∃b:Bool,b=decide (y=1):=⟨_,rfl⟩
 have hyb:((y:Int)==1)=b:=by rw[hb,Bool.eq_iff_iff];simp;omega
 rw[<- hb]
 clear hb
 have J:=ai.new w 117 #[.int .i64 0,.int .u64 0,.int .u64 0,.bool false]
 have Y:=h.st ((K.rf w).al (.cells #[.int .i64 0,.int .u64 0,.int .u64 0,.bool false] 117))
 have T:=ah.al (XW t g) w (.cells #[.int .i64 0,.int .u64 0,.int .u64 0,.bool false] 117)
 have G:=h.lt
 have hgg:=h.2.2
 clear h
 obtain⟨i,s,j⟩:=x
 go_enter func105,ntmps105
 go_wp2_with fail
 generalize w.alloc _=w1 at *
 refine (C.aa w1 Y).mono ?_
 rintro e B⟨rfl,U,E⟩
 have hz1:w.heap.size<w1.heap.size:=J.lt
 have S:=J.bT E Be
 have R:=T.tr E
 have hz2:=E.size
 have V:=ai.new B 117 #[.int .i64 i,.int .u64 (s:Int),.int .u64 (j:Int),.bool false]
 have dz:=S.alloc (.cells #[.int .i64 i,.int .u64 (s:Int),.int .u64 (j:Int),.bool false] 117)
 have X:=U.st ((K.rf B).al (.cells #[.int .i64 i,.int .u64 (s:Int),.int .u64 (j:Int),.bool false] 117))
 have ME:=R.tr (ah.al (XW t g) B (.cells #[.int .i64 i,.int .u64 (s:Int),.int .u64 (j:Int),.bool false] 117))
 clear Y J T S U E R C
 go_upto_region 2 with (fail)
 generalize B.alloc _=w3 at *
 generalize B.heap.size=D at *
 go_wp2_with fail
 refine (A.aa w3 X).mono ?_
 rintro e w4⟨rfl,h4,F⟩
 have Q:=dz.bT F Be
 have H:=V.bT F Be
 have Z:=ME.tr F
 clear X dz V ME F A
 have q:=H.cell
 have z1:=H.frozen
 go_upto_region 3 with (fail)
 have di:ai (w4.setCell ⟨D,3,none⟩ (.bool b)) D 117 #[.int .i64 i,.int .u64 (s:Int),.int .u64 (j:Int),.bool b]:=H.aR 3 _
 have h5:=h4.far (b:=D) af 3 (.bool b)
 have M:=Q.far (p:=⟨D,3,none⟩) aU (.bool b)
 have Ri:=Z.fresh (b:=D) af 3 (.bool b)
 clear q z1 H h4 Q Z
 generalize w4.setCell _ _=w5 at *
 have q:=di.cell
 have y1:=M.cell
 have z1:=M.frozen
 go_wp2
 have dQ:=(((M.aR 0 (.int .i64 i)).aR 1 (.int .u64 (s:Int))).aR 2 (.int .u64 (j:Int))).aR 3 (.bool b)
 have h9:=(((h5.far (b:=w.heap.size) G 0 (.int .i64 i)).far (b:=w.heap.size) G 1 (.int .u64 (s:Int))).far (b:=w.heap.size) G 2 (.int .u64 (j:Int))).far (b:=w.heap.size) G 3 (.bool b)
 have Ze:=(((Ri.fresh (b:=w.heap.size) (aG _) 0 (.int .i64 i)).fresh (b:=w.heap.size) (aG _) 1 (.int .u64 (s:Int))).fresh (b:=w.heap.size) (aG _) 2 (.int .u64 (j:Int))).fresh (b:=w.heap.size) (aG _) 3 (.bool b)
 have e9:=dQ.cell
 refine bodyPost_ret (v:=.agg #[.int .i64 i,.int .u64 (s:Int),.int .u64 (j:Int),.bool b]) (by simp[results,results105,go_sem,e9]) rfl ?_
 exact⟨rfl,h9,Ze⟩
def Fx(M:Nat->Prop)(p:World->Prop)(w:World):Prop:=∀W,ah M w W->p W
section
variable {M N X:Nat->Prop} {p q:World->Prop} {w w':World}
theorem Fx.now(h:Fx M p w):p w:=h w (ah.rf _ _)
theorem Fx.k(h:Fx M p w)(k:K w w'):Fx M p w':=λW u=>h W ((ah.bg k _).tr u)
theorem Fx.up(h:Fx M p w)(u:ah X w w')(j:∀k,X k->M k):Fx M p w':=λW i=>h W ((u.more j).tr i)
theorem Fx.less(h:Fx M p w)(i:∀k,N k->M k):Fx N p w:=λW u=>h W (u.more i)
theorem Fx.mono(h:Fx M p w)(i:∀W,p W->q W):Fx M q w:=λW u=>i W (h W u)
theorem Fx.at(h:Fx M p w)(k:K w w'):p w':=h w' (ah.bg k _)
theorem ah.iA{Y:Nat->Prop}{s:World}(u:ah X w w')(v:ah Y w' s)(t:∀k,k<w.heap.size->Y k->X k):ah X w s :=
 ⟨v.os.trans u.os,v.tape.trans u.tape,v.output.trans u.output,bq u.size v.size,λk i j=>(v.block k (bB i u.size) (λh=>j (t k i h))).trans (u.block k i j)⟩
theorem Fx.to(h:Fx M p w)(u:ah X w w')(i:∀k,X k->M k)(j:∀k,k<w.heap.size->N k->M k):Fx N p w':=λW v=>h W ((u.more i).iA v j)
theorem Fx.fresh{lo:Nat}(h:∀W,aH lo none w W->p W)(j:∀k,M k->k<lo):Fx M p w :=
 λW u=>h W (u.iK λk s _ _ i=>by have:=j k i;omega)
end
abbrev zo(n:Int):List Value:=[.int .i64 n]
def eS:cF Int where
 size:=1
 rel:=λn cs _=>cs=zo n
 len:=by rintro x cs w rfl;rfl
 one:=by rintro x cs w rfl u i;simp at i;subst i;rfl
 st:=λh _=>h
theorem J8(l:List Int)(W:World):Each eS l (l.map zo) W:=⟨aj,λi h j=>by simp[eS]⟩
theorem T4(l:List Int):(l.map zo).flatten=l.map λn=>Value.int .i64 n:=by
 induction l with
 | nil=>rfl
 | cons a l h=>simp[zo,h]
theorem aa7{l:List Int}{css:List (List Value)}{W:World}(h:Each eS l css W):css=l.map zo:=by
 refine List.ext_getElem Dr λi j h2=>?_
 have:=h.2 i qN j;simpa [eS]using this
section
variable {α:Type} {S:cF α} {Y:Nat->Prop} {base:Nat} {e:TypeId} {l:List α} {v:Value} {w w':World}
def aT(Y:Nat->Prop)(base:Nat)(e:TypeId)(S:cF α)(l:List α)(v:Value)(w:World):Prop :=
 ∃css,w.ownsRow base e S.size v l.length css.flatten/\css.length=l.length/\∀w',ah (λk=>Y k∨v.ownBlock=some k) w w'->Each S l css w'
theorem aT.nil(Y:Nat->Prop)(base:Nat)(e:TypeId)(S:cF α)(w:World):aT Y base e S [] (.slice none 0 0) w:=⟨[],iF _ _ _ _,rfl,λ_ _=>Each.nil _ _⟩
theorem aT.st(h:aT Y base e S l v w)(k:K w w'):aT Y base e S l v w':=by obtain⟨css,i,j,t⟩:=h;exact⟨css,fZ i k,j,λs u=>t s ((ah.bg k _).tr u)⟩
theorem aT.blk(h:aT Y base e S l v w):∀g,v.ownBlock=some g->base<=g/\g<w.heap.size:=by obtain⟨css,i,-,-⟩:=h;exact λg hg=>i.lt g hg
theorem aT.up{Y':Nat->Prop}(h:aT Y base e S l v w)(u:ah Y' w w')(B:∀k,Y' k->Y k)(hb:∀k,Y' k->k<base):aT Y base e S l v w':=by have j:=h.blk;obtain⟨css,t,A,D⟩:=h;exact⟨css,eE t u λb i s=>by have:=j b i;have:=hb b s;omega,A,λC y=>D C ((u.more λk hk=>.inl (B k hk)).tr y)⟩
theorem aT.less{Y':Nat->Prop}(h:aT Y base e S l v w)(s:∀k,Y' k->Y k):aT Y' base e S l v w:=by obtain⟨css,i,j,t⟩:=h;exact⟨css,i,j,λw' u=>t w' (u.more λk hk=>hk.imp (s k) id)⟩
theorem aT.low{base':Nat}(h:aT Y base e S l v w)(hb:base'<=base):aT Y base' e S l v w:=by exact aeD
theorem aT.ar(h:aT Y base e S l v w):ar S l v w:=by obtain⟨css,i,s,j⟩:=h;exact AU i (j w (ah.rf _ _))
theorem aT.fx(h:aT Y base e S l v w)(hb:∀k,Y k->k<base):Fx Y (λW=>Go.Proofs.YtoeiinllelipoaaGreat.ar S l v W) w:=λ_ u=>(h.up u (λ_ h=>h) hb).ar
theorem aT.slice(h:aT Y base e S l v w):∃A c,v=.slice A l.length c:=az h.ar
theorem aX.sG{lo:Nat}(h:aX base lo e S l v w):aT (λk=>k<lo) base e S l v w:=by obtain⟨css,s,t,j⟩:=h;exact⟨css,s,t,λw' u=>j w' (u.iK λk s _ j i=>by rcases i with i|i;omega;exact j i.symm)⟩
def elY(N:Nat->Prop)(S:cF α)(x:α)(v:Value)(W:World):Prop:=v.cells.size=S.size/\Fx N (λW=>S.rel x v.cells.toList W) W
def fE(N:Nat->Prop)(lo:Nat)(e:TypeId)(S:cF α)(x:α)(v:Value)(W:World):Prop:=∃g cs,v=.slice (some ⟨g,0,none⟩) 1 1/\lo<=g/\ai W g e cs/\Fx N (λW=>S.rel x cs.toList W) W
theorem avW(N:Nat->Prop)(lo:Nat)(e:TypeId)(S:cF α)(x:α):∀v w w',fE N lo e S x v w->Below w.heap.size w w'->fE N lo e S x v w':=by rintro v w w'⟨g,cs,j,s,h,i⟩ k;exact⟨g,cs,j,s,h.below k h.lt,i.k k⟩
variable {P:Program} {ρ:Operand->Value}
theorem asT(a b:Array Value)(h:a.size=b.size)(m:Nat):b.zipIdx.foldl (λcs (x:Value×Nat)=>cs.setIfInBounds (0*m+x.2) x.1) a=b:=by
 obtain⟨la⟩:=a;obtain⟨lb⟩:=b;simp at h;have key:∀(r pre q:List Value),la.length=pre.length+r.length->q.length=r.length->(List.zipIdx r pre.length).foldl (λ(cs:Array Value) (x:Value×Nat)=>cs.setIfInBounds x.2 x.1) (pre++q).toArray=(pre++r).toArray:=by
  intro r
  induction r with
  | nil=>intro pre q _ i;simp at i;subst i;simp
  | cons x r t =>
   intro pre q s h2
   cases q with
   | nil=>simp at h2
   | cons y q => simp only[List.zipIdx_cons,List.foldl_cons];have j:(pre++y :: q).toArray.setIfInBounds pre.length x=(pre++[x]++q).toArray:=aj;rw[j];have:=t (pre++[x]) q (by simp at s⊢;omega) qN;simp only[cT,iE,List.length_nil,fP]at this;rw[this];simp
 have:=key lb [] la rT h;simpa using this
theorem auP(size:Nat)(a:Array Value)(v:Value)(t:v.cells.size=size)(u:a.size=size):Instr.fill (λi=>some (i*size,size)) a [(0,v)]=some v.cells:=by have h:=asT a v.cells af size;have j:¬(0*size+v.cells.size>a.size):=af;have s:¬(v.cells.size≠size):=af;simp only[Instr.fill,s,j,decide_false,Bool.or_false,Bool.false_eq_true,if_false];exact congrArg some h
theorem arb(t:TypeId)(z:Value)(size bytes:Nat)(T:gJ P t e z size bytes)(C:v.cells.size=size)(G:size<=16777216) :
 (Instr.buildSlice t 1 #[(0,v)]).run P w=.ok (.slice (some ⟨w.heap.size,0,none⟩) 1 1) (w.alloc (.cells v.cells e)):=by
 obtain⟨i,j,u,s,E⟩:=T.fit
 have F:=T.pos
 have A:¬(1*size>2^24):=af
 have D:¬(1*size=0):=af
 have hz:(zeroValue e).run P w=.ok z w:=by simp[zeroValue,typeInfo,j,u]
 have B:=auP size ((Array.range (1*size)).map λk=>z.cells[k%z.cells.size]!) v C aj
 have y:(sizeOf e).run P w=.ok size w:=by simp[sizeOf,typeInfo,j,s]
 unfold Instr.buildSlice
 simp only[Sem.run_bind,Result.andThen_ok,run_underlying T.und,y,A,D,if_false,Sem.run_pure,hz,B]
 simp[newRow,go_sem]
theorem apU(t ty:TypeId)(z:Value)(size bytes:Nat)(T:gJ P t e z size bytes)(x:Operand)(i:ρ x=v)(j:v.cells.size=size)(s:size<=16777216) :
 (execOp ρ (ay (.buildSlice t 1 #[(0,x)]) ty)).run P w=.ok (.value (.slice (some ⟨w.heap.size,0,none⟩) 1 1)) (w.alloc (.cells v.cells e)):=by
 have h:=arb (P:=P) (w:=w) t z size bytes T j s
 subst i
 simp only[execOp,ay,List.map_toArray,j9,List.map_nil,Sem.run_bind,h,Result.andThen_ok,Sem.run_pure]
theorem ads(t ty:TypeId)(z:Value)(size bytes:Nat)(T:gJ P t e z size bytes)(D:S.size=size)(L:aT Y base e S l v w)(u:Value)(x:α)(s:fE (λk=>Y k∨v.ownBlock=some k) 0 e S x u w)
 (N:(l.length+1)*(bytes+1)<=140737488355328) (G:base<=w.heap.size) :
 ∃i w',(Builtin.append_ #[t,t] ty #[v,u]).run P w=.ok i w'/\aT Y base e S (l++[x]) i w'/\w.grownBy w' v.ownBlock/\(i.ownBlock=v.ownBlock∨i.ownBlock=some w.heap.size)/\Below base w w':=by
 subst D
 obtain⟨g,cs,rfl,-,hb,C⟩:=s
 obtain⟨css,E,H,I⟩:=L
 have hrel:=C.now
 have O:=S.len hrel
 have M:Reads w w.heap.size S.size (some ⟨g,0,none⟩) 1 cs.toList:=⟨af,λ_=>⟨g,0,rfl,hb.lt,λj u s=>by
  rw[fP,hb.cell j];simpa using s⟩⟩
 obtain⟨i,w',F,h2,A,h4,J⟩:=Bb w base t ty e z S.size bytes T v l.length css.flatten E w.heap.size _ 1 1 _ M (S.one hrel) N G
 refine⟨i,w',F,⟨css++[cs.toList],qN,by simp[H],λy u=>?_⟩,A,h4,J⟩
 have B:ah (λk=>Y k∨v.ownBlock=some k) w y:=(ah.fM (X:=λk=>Y k∨v.ownBlock=some k) A (λg hg=>.inr hg)).iA u λk hk h=>by exact agi
 exact (I y B).snoc (C y B)
theorem asU(s x:Operand)(t ty:TypeId)(z:Value)(size bytes:Nat)(T:gJ P t e z size bytes)(B:S.size=size)(F:ρ s=v)(y:aT Y base e S l v w)(u:Value)(j:ρ x=u)(a:α)(C:fE (λk=>Y k∨v.ownBlock=some k) 0 e S a u w)
 (A:(l.length+1)*(bytes+1)<=140737488355328) (E:base<=w.heap.size) :
 ∃i w',(execOp ρ (ay (.call { callee:=.builtin .append,args:=#[s,x],argTypes:=#[t,t] }) ty)).run P w=.ok (.value i) w'/\aT Y base e S (l++[a]) i w'/\w.grownBy w' v.ownBlock/\(i.ownBlock=v.ownBlock∨i.ownBlock=some w.heap.size)/\Below base w w':=by
 obtain⟨i,w',D,h⟩:=ads (P:=P) t ty z size bytes T B y u a C A E
 refine⟨i,w',?_,h⟩
 subst F j
 simp only[execOp,ay,resolve,invoke,builtin,Sem.run_bind,Sem.run_pure,Result.andThen_ok,List.map_toArray,j9,List.map_nil,D]
theorem jK{ops:Array Oper}{rest:List Oper}{o:Oper}{a:Act}{Q:Exit->Act->World->Prop}(G:o.guard=none)(s x:Operand)(t:TypeId)
 (J:o.op=.call { callee:=.builtin .append,args:=#[s,x],argTypes:=#[t,t] })
 (z:Value) (size bytes:Nat) (T:gJ P t e z size bytes) (A:S.size=size) (N:a.eval s=v) (H:aT Y base e S l v w) (u:Value) (j:a.eval x=u) (b:α) (I:fE (λk=>Y k∨v.ownBlock=some k) 0 e S b u w)
 (M:(l.length+1)*(bytes+1)<=140737488355328) (D:base<=w.heap.size)
 (h:∀i w',aT Y base e S (l++[b]) i w'->w.grownBy w' v.ownBlock->(i.ownBlock=v.ownBlock∨i.ownBlock=some w.heap.size)->Below base w w'->wpList P ops Q rest (a.put o.dst i) w') :
 wpList P ops Q (o :: rest) a w:=by
 refine wpList_plain G λK C=>?_
 obtain⟨i,w',B,L,y,E,F⟩:=ads (P:=P) t o.type z size bytes T A H u b I M D
 unfold Oper.wp execOp
 simp only[J,resolve,invoke,builtin,Sem.run_bind,Sem.run_pure,Result.andThen_ok,List.map_toArray,j9,List.map_nil,N,j,B]
 exact C _ _ (h i w' L y E F)
theorem fE.new{N:Nat->Prop}{x:α}(h:Fx N (λW=>S.rel x v.cells.toList W) w)(lo:Nat)(i:lo<=w.heap.size):fE N lo e S x (.slice (some ⟨w.heap.size,0,none⟩) 1 1) (w.alloc (.cells v.cells e)) :=
 ⟨w.heap.size,v.cells,rfl,i,ai.new _ _ _,h.k ((K.rf w).al _)⟩
theorem fE.less{N i:Nat->Prop}{lo:Nat}{x:α}(h:fE N lo e S x v w)(j:∀k,i k->N k):fE i 0 e S x v w:=by obtain⟨g,cs,t,y,s,u⟩:=h;exact⟨g,cs,t,af,s,u.less j⟩
end
theorem aV.is{P:Program}{i:Act}{w0:World}{s:List (Value->World->Prop)->Prop}{o:Oper}{r:List Oper}{x:List Nat×List (Nat×Nat)}{xs:List (List Nat×List (Nat×Nat))}{t:List (Value->World->Prop)}(c:Value)
 (h:∀(V:Nat->Value) (w:World),K w0 w->(∀j∈x.1,tab t j (V j) w)->if aL V o.guard=true then aS P (ag c) w ((execOp (aw x.2 i V) (ay o.op o.type)).run P w)else ag c undef w)
 (k:aV P i w0 s r xs (t++[ag c])):aV P i w0 s (o :: r) (x :: xs) t:=aV.op (ag c) (jN c) h k
section
variable {α:Type} {S:cF α} {P:Program} {a0:Act} {w0:World} {Fin:List (Value->World->Prop)->Prop} {o:Oper} {r:List Oper} {x:List Nat×List (Nat×Nat)} {xs:List (List Nat×List (Nat×Nat))} {t:List (Value->World->Prop)} {N Y:Nat->Prop} {lo base:Nat} {e:TypeId} {E:(Nat->Value)->World->Prop} {k:Nat} {V:Nat->Value} {w:World}
theorem aV.row(s:TypeId)(z:Value)(size bytes:Nat)(T:gJ P s e z size bytes)(D:S.size=size)(G:size<=16777216)(i:Operand)(y:α)(E:o.op=.buildSlice s 1 #[(0,i)])(hg:o.guard=none)(B:lo<=w0.heap.size)
 (h:∀(V:Nat->Value) (w:World),K w0 w->(∀j∈x.1,tab t j (V j) w)->elY N S y (aw x.2 a0 V i) w)
 (k:aV P a0 w0 Fin r xs (t++[fE N lo e S y])):aV P a0 w0 Fin (o :: r) (x :: xs) t:=by
 refine aV.op (fE N lo e S y) (avW _ _ _ _ _) (λV w u F=>?_) k
 obtain⟨A,C⟩:=h V w u F
 rw[hg,if_pos (show aL V none=true from rfl),E,apU (P:=P) (w:=w) s _ z size bytes T i rfl (by rw[A,D]) G]
 exact⟨fE.new C lo (bq B u.size),(K.rf w).al _⟩
theorem bu.push(s u:Operand)(j:TypeId)(z:Value)(size bytes:Nat)(T:gJ P j e z size bytes)(F:S.size=size)(J:o.op=.call { callee:=.builtin .append,args:=#[s,u],argTypes:=#[j,j] })(hg:o.guard=none)
 (v:Value) (l:List α) (y:α) (M:aw x.2 a0 V s=v) (A:aT Y base e S l v w) (G:fE (λk=>Y k∨v.ownBlock=some k) 0 e S y (aw x.2 a0 V u) w) (C:(l.length+1)*(bytes+1)<=140737488355328) (I:base<=w.heap.size)
 (h:∀i w',aT Y base e S (l++[y]) i w'->w.grownBy w' v.ownBlock->(i.ownBlock=v.ownBlock∨i.ownBlock=some w.heap.size)->Below base w w'->bu P a0 E (k+1) r xs (bj V k i) w') :
 bu P a0 E k (o :: r) (x :: xs) V w:=by
 obtain⟨i,w',H,B,D,L,t⟩:=asU (P:=P) (ρ:=aw x.2 a0 V) s u j o.type z size bytes T F M A _ rfl y G C I
 unfold bu
 rw[hg,if_pos (show aL V none=true from rfl),J,H]
 exact h i w' B D L t
theorem bu.app(s u:Operand)(j:TypeId)(z:Value)(size bytes:Nat)(T:gJ P j e z size bytes)(I:o.op=.call { callee:=.builtin .append,args:=#[s,u],argTypes:=#[j,j] })(hg:o.guard=none)
 (v:Value) (n:Nat) (y:List Value) (S:aw x.2 a0 V s=v) (N:w.ownsRow base e size v n y) (B:Nat) (A:Option Addr) (m c:Nat) (t:List Value) (O:aw x.2 a0 V u=.slice A m c) (F:Reads w B size A m t) (Q:∀u∈t,u.oneCell'=true)
 (R:(n+m)*(bytes+1)<=140737488355328) (H:base<=w.heap.size)
 (h:∀i w',w'.ownsRow base e size i (n+m) (y++t)->w.grownBy w' v.ownBlock->(i.ownBlock=v.ownBlock∨i.ownBlock=some w.heap.size)->Below base w w'->bu P a0 E (k+1) r xs (bj V k i) w') :
 bu P a0 E k (o :: r) (x :: xs) V w:=by
 obtain⟨i,w',G,D,J,L,M⟩:=Bb (P:=P) w base j o.type e z size bytes T v n y N B A m c t F Q R H
 have C:(execOp (aw x.2 a0 V) (ay (.call { callee:=.builtin .append,args:=#[s,u],argTypes:=#[j,j] }) o.type)).run P w=.ok (.value i) w':=by subst S;simp only[execOp,ay,resolve,invoke,builtin,Sem.run_bind,Sem.run_pure,Result.andThen_ok,List.map_toArray,j9,List.map_nil,O,G]
 unfold bu
 rw[hg,if_pos (show aL V none=true from rfl),I,C]
 exact h i w' D J L M
theorem bu.nil(h:E V w):bu P a0 E k [] xs V w:=by cases xs <;> exact h
theorem bu.skip(w':World)(hg:o.guard=none)(hx:(execOp (aw x.2 a0 V) (ay o.op o.type)).run P w=.ok .skip w')(h:bu P a0 E (k+1) r xs (bj V k undef) w'):bu P a0 E k (o :: r) (x :: xs) V w:=by exact VN
theorem bu.pure(v:Value)(hg:o.guard=none)(hx:(execOp (aw x.2 a0 V) (ay o.op o.type)).run P w=.ok (.value v) w)(h:bu P a0 E (k+1) r xs (bj V k v) w):bu P a0 E k (o :: r) (x :: xs) V w:=by exact VN
theorem bu.val(v:Value)(w':World)(hg:o.guard=none)(hx:(execOp (aw x.2 a0 V) (ay o.op o.type)).run P w=.ok (.value v) w')(h:bu P a0 E (k+1) r xs (bj V k v) w'):bu P a0 E k (o :: r) (x :: xs) V w:=by exact VN
end
def MG:cF UInt8 where
 size:=1
 rel:=λb cs _=>cs=[.int .u8 (b.toNat:Int)]
 len:=by rintro x cs w rfl;rfl
 one:=by rintro x cs w rfl u i;simp at i;subst i;rfl
 st:=λh _=>h
theorem adt(l:List UInt8):(l.map λb=>[Value.int .u8 (b.toNat:Int)]).flatten=dy l:=by
 induction l with
 | nil=>rfl
 | cons a l h=>simp[h,dy]
theorem Own.sG{Y:Nat->Prop}{w:World}{base:Nat}{e:TypeId}{v:Value}{l:List UInt8}(h:Own w base e v l):aT Y base e MG l v w :=
 ⟨l.map λb=>[.int .u8 (b.toNat:Int)],by rw[adt];exact h,aj,λw' _=>⟨aj,λi h j=>by simp[MG]⟩⟩
theorem aT.bytes{Y:Nat->Prop}{w:World}{base:Nat}{e:TypeId}{v:Value}{l:List UInt8}(h:aT Y base e MG l v w):Own w base e v l:=by
 obtain⟨css,j,h2,t⟩:=h;have s:=t w (ah.rf _ _);have:css=l.map λb=>[Value.int .u8 (b.toNat:Int)]:=List.ext_getElem Ko λi j h2=>by have:=s.2 i qN j;simpa [MG]using this
 rw[this,adt]at j;exact j
def xR(s:Nat):Nat:=if s &&& 1=1 then (s/2) ^^^ 3945912366 else s/2
def D6:Nat->Nat->Nat
 | 0,s=>s
 | k+1,s=>xR (D6 k s)
def zq(l:List UInt8):Nat:=l.foldl (λs b=>D6 8 (s ^^^ b.toNat)) 4294967295
def zt(l:List UInt8):Nat:=4294967295 ^^^ zq l
theorem OE{a b:Nat}(h:a<4294967296)(hb:b<4294967296):a ^^^ b<4294967296:=Nat.xor_lt_two_pow (n:=32) h hb
theorem agj{s:Nat}(h:s<4294967296):xR s<4294967296:=by
 unfold xR;split
 ·exact OE af au
 ·omega
theorem avX(k:Nat){s:Nat}(h:s<4294967296):D6 k s<4294967296:=by
 induction k with
 | zero=>exact h
 | succ k i=>exact agj i
theorem acI(l:List UInt8)(b:UInt8):zq (l++[b])=D6 8 (zq l ^^^ b.toNat):=by simp[zq]
theorem agk(l:List UInt8):zq l<4294967296:=by
 rcases List.eq_nil_or_concat l with rfl|⟨h,b,rfl⟩
 ·decide
 ·rw[List.concat_eq_append,acI];have i:=agk h;exact avX 8 (OE i (by have:=b.toNat_lt;omega))
termination_by l.length
decreasing_by all_goals (subst_vars;simp)
theorem VO(l:List UInt8):zt l<4294967296:=OE au (agk l)
theorem abV(l:List UInt8)(v:Value)(w:World)(h:sl l v w)(hn:l.length<=1000000000) :
 Calls prog 209 #[v] w λe w'=>e=.returned (.int .u32 (zt l:Int))/\K w w':=by
 obtain⟨A,c,rfl,E⟩:=h
 have kk:=K.rf w
 have G:Hid (zt l=4294967295 ^^^ zq l):=ae rfl
 generalize zt l=R at *
 go_enter func209,ntmps209
 go_wp2_with fail
 go_loop [3,5,6,9] (fun s _ _ i=>∃j:Nat,j<=l.length/\i=.int .i64 (j:Int)/\∃n:Nat,s=.int .u32 (n:Int)/\n<4294967296/\Hid (n=zq (l.take j))) (fun _ _ _ i=>l.length-(intOf i).toNat)
 case atStart=>exact⟨0,af,rfl,4294967295,rfl,af,ae (by simp[zq])⟩
 case round =>
  obtain⟨j,O,rfl,n,rfl,hn,y⟩:=hrel;by_cases t:j<l.length
  ·have H:(j:Int)<(l.length:Int):=af;obtain⟨b,L,rfl,-,u⟩:=E.at_ af;have N:=u j t;have J:l[j].toNat<256:=l[j].toNat_lt;have D:Hid (zq (l.take (j+1))=D6 8 (n ^^^ l[j].toNat)):=ae (by rw[gE t,acI,y.aa]);generalize l[j]=x at *;have HX:=ae (u32_xor_nat n x.toNat hn af);have B:=OE hn (show x.toNat<4294967296 by omega);clear u;go_wp2_with fail
   rw[HX.aa];generalize n ^^^ x.toNat=s0 at *;go_loop [3,6,17] (fun s _ k=>∃k':Nat,k'<=8/\k=.int .i64 (k':Int)/\∃m:Nat,s=.int .u32 (m:Int)/\m<4294967296/\Hid (m=D6 k' s0)) (fun _ _ k=>8-(intOf k).toNat)
   case atStart=>exact⟨0,af,rfl,s0,rfl,B,ae rfl⟩
   case round =>
    obtain⟨k',hk,rfl,m,rfl,hm,HM⟩:=hrel;by_cases M:k'<8
    ·have I:(k':Int)<8:=af;have hl:=agj hm;have ha:=u32_and_nat m 1 hm au;by_cases h1:m &&& 1=1
     ·have hb:(bits BinOp.and IntKind.u32 (m:Int) 1==1)=true:=by rw[show (1:Int)=((1:Nat):Int)from rfl,ha,h1];rfl
      have hB:xR m=(m/2) ^^^ 3945912366:=by rw[xR,if_pos h1]
      have HX:=ae (show bits BinOp.xor IntKind.u32 ((m:Int)/2) 3945912366=((xR m:Nat):Int) by rw[hB];exact u32_xor_nat (m/2) 3945912366 af au);exact agl
     ·have hb:(bits BinOp.and IntKind.u32 (m:Int) 1==1)=false:=by rw[show (1:Int)=((1:Nat):Int)from rfl,ha];simp only[beq_eq_false_iff_ne];omega
      have hB:xR m=m/2:=by rw[xR,if_neg h1]
      have HX:=ae (show (m:Int)/2=((xR m:Nat):Int) by rw[hB];simp);exact agl
    ·have I:¬(k':Int)<8:=af;obtain rfl:k'=8:=af;have C:Hid (m=zq (l.take (j+1))):=ae (by rw[D.aa,HM.aa]);go_wp2;go_round
     case rel=>exact⟨j+1,af,bO,m,rfl,hm,C⟩
     case measure=>simp[intOf];omega
  ·have H:¬(j:Int)<(l.length:Int):=af;obtain rfl:j=l.length:=af;have F:Hid (R=4294967295 ^^^ n):=ae (by rw[G.aa,y.aa,mC]);have HX:=ae (u32_xor_nat 4294967295 n au hn);go_wp2;go_ret;refine⟨?_,kk⟩;rw[F.aa];exact congrArg (λz=>Ending.returned (Value.int IntKind.u32 z)) HX.aa
theorem aa8(g lo base k n:Nat)(v:Value)(l:List UInt8)(w:World)(hb:ai w g 42 #[v])(ho:Own w base 5 v l)(F:lo<=g/\lo<=base/\lo<=w.heap.size)(hbase:base<=w.heap.size)(hk:k<=4)(hn:n<4294967296)(hl:l.length<=1000000000) :
 Calls prog 249 #[.int .u32 (n:Int),.int .i64 (k:Int),.pointer (some ⟨g,0,none⟩)] w λe w'=>∃s,e=.returned (.tuple #[])/\ai w' g 42 #[s]/\Own w' base 5 s (l++be k n)/\Below lo w w':=by
 have kk:=aN lo w
 go_enter func249,ntmps249
 go_wp2_with fail
 go_loopw [5] (fun i W=>∃(j:Nat) (s:Value) (pre:List UInt8),j<=k/\(∃z:Int,i=.int .i64 z/\z+1=(j:Int))/\ai W g 42 #[s]/\Own W base 5 s (l++pre)/\Hid (pre++be j n=be k n)/\Below lo w W) (fun i _=>(intOf i+1).toNat)
 case atStart=>exact⟨k,v,[],af,⟨_,rfl,af⟩,hb,KB,ae aj,kk⟩
 case round =>
  clear kk hb ho;obtain⟨j,s,pre,hj,⟨z,rfl,hz⟩,hb,ho,B,kr⟩:=hrel;by_cases h0:0<j
  ·obtain⟨j,rfl⟩:∃U,j=U+1:=⟨j-1,af⟩;obtain rfl:z=(j:Int):=af;have ba:(0:Int)<=(j:Int):=af;have hj8:(8:Int)*(j:Int)<=24:=af;have hwr:IntKind.i64.wrap (8*(j:Int))=8*(j:Int):=IntWalk.i64_in _ af;have R:¬(8*(j:Int)<0):=af;clear hz;have q:=hb.cells;have z:=hb.frozen;go_upto_region 3 with (fail);refine eM 7 [([],[]),([],[]),([],[]),([2],[(14,2)]),([1,3],[(13,1),(15,3)]),([4],[(16,4)]),([5],[(17,5)]),([0,6],[(12,0),(18,6)]),([0,1,2,3,4,5,6,7],[(19,7)])] 20 rfl ak ak ak ak au ?_;simp only[dR,dN,ew,dP];iterate 6 (apply aV.is;intro V W t A;(try simp only[aI,aJ,aM,aE,aF,ag]at A);simp[aL,aw,List.lookup,A,aS,execOp,ay,ag,aN,t,q,hwr,R,go_sem];rfl)
   refine aV.row (N:=λ_=>True) (lo:=0) (S:=MG) 42 _ 1 1 TB rfl au (.tmp 17) (UInt8.ofNat (n/256^j)) rfl rfl (fw _) (λV W t A=>?_) ?_
   ·simp only[aI,aJ,aM,aE,aF,ag]at A;simp only[aw,List.lookup,beq_self_eq_true,A];refine⟨rfl,λW' _=>?_⟩;show [Value.int .u8 _]=_;rw[show (8*(j:Int)).toNat=8*j by omega,show IntKind.u8.wrap ((n:Int)/2^(8*j))=(n:Int)/2^(8*j)%256 from by rw[IntKind.wrap_u8],aco]
   intro V W t L;simp only[aJ,aM,eA,ag,Nat.reduceAdd]at L;obtain⟨e0,-,-,-,-,-,e6,-⟩:=L;have E:=TQ (aG _) ho t;have D:=hb.below t hb.lt;have J:s.ownBlock≠some g:=λe=>by obtain⟨cur,h1⟩:=gg E e;exact absurd (h1.ja D) au
   have hpl:pre.length<=4:=by have:=congrArg List.length B.aa;simp[tL]at this;omega
   have Gf:base<=W.heap.size:=by have:=t.size;have:=kr.size;omega
   refine bu.push (.tmp 12) (.tmp 18) 42 _ 1 1 TB rfl rfl rfl s (l++pre) (UInt8.ofNat (n/256^j)) ?_ (Own.sG (Y:=λ_=>True) E) ?_ ?_ Gf ?_
   ·simp[aw,List.lookup,e0]
   ·simp only[aw,List.lookup,beq_self_eq_true];exact e6.less λ_ _=>trivial
   ·simp;omega
   intro T y H G _ M;have hx2:ai y g 42 #[s]:=D.grown G (λe=>J e.symm);have C:=H.bytes;have I:T.ownBlock≠some g:=λe=>by obtain⟨cur,h1⟩:=gg C e;exact Ph
   obtain⟨u,c2,rfl,-⟩:=C.slice;refine bu.skip (y.setCell ⟨g,0,none⟩ (.slice u (l++pre++[UInt8.ofNat (n/256^j)]).length c2)) rfl ?_ ?_
   ·have q2:=hx2.cell;have z2:=hx2.frozen;simp[aw,List.lookup,bj,execOp,ay,q2,z2,go_sem]
   refine bu.nil ?_;simp only[bF,Act.put,cO,cM,cL,bj,Nat.reduceAdd,Nat.reduceEqDiff,if_false,if_true];have bo:=hx2.aR 0 (.slice u (l++pre++[UInt8.ofNat (n/256^j)]).length c2);have nK:Own (y.setCell ⟨g,0,none⟩ (.slice u (l++pre++[UInt8.ofNat (n/256^j)]).length c2)) base 5 (.slice u (l++pre++[UInt8.ofNat (n/256^j)]).length c2) (l++(pre++[UInt8.ofNat (n/256^j)])):=by rw[<- dG];exact eE C (ah.b6 (X:=λk=>k=g) rfl 0 _) λb hb e=>I KP
   have Q:Below lo w (y.setCell ⟨g,0,none⟩ (.slice u (l++pre++[UInt8.ofNat (n/256^j)]).length c2)) :=
    ((kr.trans (t.mono (by have:=kr.size;omega))).trans (M.mono F.2.1)).setCell (p:=⟨g,0,none⟩) F.1 _
   have O:Hid (pre++[UInt8.ofNat (n/256^j)]++be j n=be k n):=ae (by have:=B.aa;rw[be]at this;simpa using this);clear B H C M hx2 G I ho hb q z D E J;generalize y.setCell _ _=w9 at *;go_wp2;go_roundw
   case rel=>exact⟨j,_,_,af,⟨_,rfl,af⟩,bo,nK,O,Q⟩
   case measure=>simp[intOf]
  ·obtain rfl:j=0:=af;have Z:Hid (pre=be k n):=ae (by have:=B.aa;simpa [be]using this);go_wp2;go_end0;exact⟨_,rfl,hb,by rw[<- Z.aa];exact ho,kr⟩
def gV(b:List UInt8):Bool:=decide (1<=b.length)&&decide (b.length<=4000)
def frame(b:List UInt8):List UInt8:=be 2 b.length++be 4 (zt b)++b
def yZ(b:List UInt8):List UInt8:=if gV b then frame b else []
def Fz(b:List UInt8):Int:=if gV b then 0 else 30
theorem AX(b:List UInt8):(frame b).length=wW b:=by simp[frame,tL,wW];omega
theorem apV(b:List UInt8)(v:Value)(w:World)(h:sl b v w)(hn:b.length<=1000000000) :
 Calls prog 223 #[v] w λe w'=>∃U,e=.returned (.tuple #[U,.int .i64 (Fz b)])/\Own w' w.heap.size 5 U (yZ b)/\K w w':=by
 have CS:=ae λW (k:K w W)=>abV b v W (iQ _ _ _ _ h k) hn
 have hcs:=VO b
 obtain⟨A,c,rfl,T⟩:=h
 have kk:=K.rf w
 have HF:Hid (yZ b=if gV b then be 2 b.length++be 4 (zt b)++b else []):=ae rfl
 have HC:Hid (Fz b=if gV b then 0 else 30):=ae rfl
 have HK:Hid (gV b=(decide (1<=b.length)&&decide (b.length<=4000))):=ae rfl
 generalize Fz b=R at *
 generalize yZ b=F at *
 generalize gV b=D at *
 generalize zt b=s at *
 go_enter func223,ntmps223
 by_cases h0:0<b.length
 rotate_left
 ·have h0':((b.length:Int)==0)=true:=by rw[beq_iff_eq];omega
  obtain rfl:D=false:=by rw[HK.aa,decide_eq_false (show ¬1<=b.length by omega)];rfl
  exact agm
 have h0':((b.length:Int)==0)=false:=by rw[beq_eq_false_iff_ne];omega
 by_cases h1:4000<b.length
 ·have h1':4000<(b.length:Int):=af;obtain rfl:D=false:=by rw[HK.aa,decide_eq_false (show ¬b.length<=4000 by omega),Bool.and_false]
  exact agm
 have h1':(b.length:Int)<=4000:=af
 obtain rfl:D=true:=by rw[HK.aa,decide_eq_true (show 1<=b.length by omega),decide_eq_true (show b.length<=4000 by omega)];rfl
 have HR:Hid (R=0/\F=be 2 b.length++be 4 s++b):=ae ⟨HC.aa,HF.aa⟩
 clear HK HC HF
 obtain⟨i,O,B,Q,hz2⟩:=info_parts Xu
 have QT:∀W:World,(Instr.makeSlice 42 (.int .i64 0) (.int .i64 (6+(b.length:Int)))).run prog W=.ok (.slice (some ⟨W.heap.size,0,none⟩) 0 (6+b.length)) (W.alloc (.cells (madeCells #[.int .u8 0] (6+b.length)) 5)):=by intro W;have h:=run_make (P:=prog) W 42 5 i (.int .u8 0) underlying42 O B .i64 .i64 0 (6+(b.length:Int)) af af UJ af;rw[Q]at h;simpa [Value.cells,show ((6:Int)+(b.length:Int)).toNat=6+b.length from by omega]using h
 clear O B Q hz2
 have J:=ai.new w 5 (madeCells #[.int .u8 0] (6+b.length))
 have t:=ai.new (w.alloc (.cells (madeCells #[.int .u8 0] (6+b.length)) 5)) 42 #[.slice (some ⟨w.heap.size,0,none⟩) 0 (6+b.length)]
 have X:=J.alloc (.cells #[.slice (some ⟨w.heap.size,0,none⟩) 0 (6+b.length)] 42)
 have j:K w ((w.alloc (.cells (madeCells #[.int .u8 0] (6+b.length)) 5)).alloc (.cells #[.slice (some ⟨w.heap.size,0,none⟩) 0 (6+b.length)] 42)):=((K.rf w).al _).al _
 simp only[World.size_alloc]at t
 go_wp2_with fail
 generalize (w.alloc (.cells (madeCells #[.int .u8 0] (6+b.length)) 5)).alloc (.cells #[.slice (some ⟨w.heap.size,0,none⟩) 0 (6+b.length)] 42)=w0 at *
 have H:Own w0 w.heap.size 5 (.slice (some ⟨w.heap.size,0,none⟩) 0 (6+b.length)) [] :=
  Tg (xs:=[]) (rest:=List.replicate (6+b.length) (.int .u8 0)) (aG _) (by rw[aJ,<- toList_madeCells_one];exact X) rfl aj Dp
 have B:=t.lt
 refine (aa8 (w.heap.size+1) w.heap.size w.heap.size 2 b.length _ [] w0 t H ⟨af,af,af⟩ af af af aj).mono ?_
 rintro e w1⟨v1,rfl,C,y,M⟩
 replace j:=j.trans M
 rw[aJ]at y
 have fg:=tL 2 b.length
 generalize be 2 b.length=G at *
 clear t H X J M QT
 go_wp2_with fail
 refine (CS.aa w1 j).mono ?_
 rintro e w2⟨rfl,u⟩
 have E:=C.below u C.lt
 have V:=TQ (aG _) y u
 replace j:=j.tr u
 have hz2:=E.lt
 clear C y u CS
 go_wp2_with fail
 refine (aa8 (w.heap.size+1) w.heap.size w.heap.size 4 s v1 G w2 E V ⟨af,af,af⟩ af af hcs af).mono ?_
 rintro e w3⟨v3,rfl,I,S,N⟩
 replace j:=j.trans N
 have Y:=(T.below j (aG _)).more j.size
 have q3:=I.cell
 have lh:(G++be 4 s).length=6:=by simp[tL,fg]
 have Gf:=j.size
 clear E V N T
 generalize G++be 4 s=hd at *
 go_wp2_with (at_builtin;refine iC rfl _ _ 42 rfl w.heap.size 5 _ 1 1 TB _ _ _ rfl S _ A b.length c (dy b) rfl Y (xw b) ?p1 Gf ?_)
 case p1=>omega
 intro v4 w4 L _ _ Z
 have HO:Hid (Own w4 w.heap.size 5 v4 (hd++b)):=ae (by unfold Own;rw[JY,cT,lh];exact L)
 have k4:=j.trans Z
 clear L S I q3
 go_wp2
 go_ret2
 exact⟨_,by rw[HR.aa.1];rfl,by rw[HR.aa.2];exact HO.aa,k4⟩
