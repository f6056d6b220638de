/-
  A region that draws its order and makes memory, but for two operations: one that changes what was there (an append onto a row of the call's own), and one that comes behind all others (a store). Conditions: none.
-/
import Derived.Test.YtoeiinllelipoaaGreatMa07
import Derived.Maps.OwnSet
import Derived.Carry
import Derived.Test.YtoeiinllelipoaaGreatMz
set_option maxRecDepth 100000
set_option maxHeartbeats 16000000
set_option linter.unusedVariables false
set_option linter.unusedSimpArgs false
namespace Go.Proofs.YtoeiinllelipoaaGreat
open Go Go.RowKit Tryz
section
variable {P:Program} {Q:Exit->Act->World->Prop}
def X5(F:World->Prop):Result Next->Prop
 | .ok (.value _) w'=>F w'
 | .ok .skip w'=>F w'
 | _=>False
def axN(P:Program)(h:Act)(C i F:World->Prop)(φ:Nat->Value->World->Prop)(op:Op)(ty:TypeId)(gd:Option (Nat×Bool))(al:List Nat)(rd:List (Nat×Nat)):Prop :=
 gd=none/\∀(V:Nat->Value) (w:World),C w->i w->(∀j∈al,φ j (V j) w)->X5 F ((execOp (aw rd h V) (ay op ty)).run P w)
def xE(P:Program)(h:Act)(C j i:World->Prop)(Le:World->World->Prop)(F:World->Prop)(φ:Nat->Value->World->Prop)(z y:Nat):Nat->List Oper->List (List Nat×List (Nat×Nat))->Prop
 | _,[],_=>True
 | _,_ :: _,[]=>False
 | k,o :: r,x :: xs=>(if k=y then axN P h C i F φ o.op o.type o.guard x.1 x.2 else nZ P h C j i Le φ z k [o] [x])/\xE P h C j i Le F φ z y (k+1) r xs
def y8(C h i:World->Prop)(t:List (Value->World->Prop))(z y:Nat)(F:World->Prop)(L:Nat->Bool)(V:Nat->Value)(w:World):Prop:=if L y=true then F w else DJ C h i t z L V w
theorem mm.imp{R j:Value->World->Prop}(h:∀v w,R v w->j v w){q:Result Next}(i:mm P R q):mm P j q:=by
 cases q with
 | ok n w' =>
  cases n <;> simp only[mm]at i⊢
  case value v=>exact h _ _ i
  case skip=>exact h _ _ i
  case enter f args => refine i.mono ?_;rintro e t⟨v,rfl,s⟩;exact⟨v,rfl,h _ _ s⟩
 | halt x w'=>simp only[mm]at i
theorem xE.toP{ops:Array Oper}{O:Act}{C H G:World->Prop}{Le:World->World->Prop}{F:World->Prop}{t:List (Value->World->Prop)}{z y:Nat}(A:List (List Nat×List (Nat×Nat)))(S:qP ops A=true)
 (U:∀k,k<ops.size->k≠y->lG A k A.length y=true) (Jf:z≠y) (hz:z<ops.size)
 (hg:∀W B,C W->Below W.heap.size W B->C B) (Y:∀W B,H W->Below W.heap.size W B->H B) (hg1:∀W B,G W->Below W.heap.size W B->G B)
 (st:∀f∈t,∀v w w',f v w->Below w.heap.size w w'->f v w') (st2:∀j,j≠z->lG A z A.length j=false->∀v w w',tab t j v w->Le w w'->tab t j v w') :
 ∀(l:List Oper) (k:Nat) (E:List (List Nat×List (Nat×Nat))),(∀i,ops[k+i]?=l[i]?)->(∀i,A[k+i]?=E[i]?) ->
  xE P O C H G Le F (tab t) z y k l E->Fq P ops O (y8 C H G t z y F) k l E:=by
 intro l
 induction l with
 | nil=>intro k E _ _ _;exact trivial
 | cons o r ih =>
  intro k E ho hq h
  cases E with
  | nil=>exact False.elim h
  | cons x xs =>
   have Z:ops[k]?=some o:=ho 0;have hks:k<ops.size:=(Array.getElem?_eq_some_iff.1 Z).1;refine⟨?_,ih _ _ (λi=>afw) (λi=>afx) h.2⟩;intro L V w N Q I D;by_cases M:k=y
   ·subst M;have s:=h.1;rw[if_pos rfl]at s;obtain⟨hgd,s⟩:=s;unfold y8 at D;rw[N]at D;simp only[Bool.false_eq_true,if_false]at D;obtain⟨hc,T,hp⟩:=D;by_cases R:L z=true
    ·rw[if_pos R]at T;have s:=s V w hc T λj hj=>hp j (I j hj)
     rw[hgd,if_pos (show aL V none=true from rfl)];have X:dw L k k=true:=by simp[dw]
     generalize (execOp (aw x.2 O V) (ay o.op o.type)).run P w=q at *;cases q with
     | ok n w' =>
      cases n <;> simp only[X5]at s <;> simp only[mm]
      case value v=>unfold y8;rw[if_pos X];exact s
      case skip=>unfold y8;rw[if_pos X];exact s
     | halt x w'=>simp only[X5]at s
    ·exfalso;have u:=U z hz Jf;have Y7:A[k]?=some x:=hq 0;cases hn:A.length with
     | zero=>rw[hn]at u;cases u
     | succ n =>
      rw[hn]at u;unfold lG at u;rw[Y7]at u;simp only[Bool.or_eq_true,List.contains_iff_mem,List.any_eq_true]at u;rcases u with u|⟨i,hi,u⟩
      ·exact R (I z u)
      ·exact R (Ie S Q _ _ u (I i hi))
   ·have J:L y=false:=by
     cases J:L y with
     | false=>rfl
     | true=>rw[Ie S Q _ _ (U k hks M) J]at N;cases N
    have s:=h.1;rw[if_neg M]at s;have e:=(nZ.X4 A S hg Y hg1 st st2 [o] k [x] s).1;unfold y8 at D;rw[J]at D;simp only[Bool.false_eq_true,if_false]at D;have e:=e L V w N Q I D;have B8:dw L k y=false:=by simp[dw,Ne.symm M,J]
    have key:∀v w',DJ C H G t z (dw L k) (bj V k v) w'->y8 C H G t z y F (dw L k) (bj V k v) w':=by intro v w' h9;unfold y8;rw[B8];simpa using h9
    exact afy
theorem Hr{id:Nat}{ops:Array Oper}{A:Act}{w:World}(z y:Nat)(C u B:World->Prop)(Le:World->World->Prop)(F:World->Prop)(l:List (Value->World->Prop))(s:List (List Nat×List (Nat×Nat)))
 (n:Nat) (hn:A.tmps.size=n) (hm:P.follows .mixedOrders=true) (G:o8 ops n=true) (D:qP ops s=true) (hz:z<ops.size) (J:y<ops.size) (N:z≠y)
 (I:(List.range ops.size).all (λk=>k==y||lG s k s.length y)=true)
 (hg:∀W t,C W->Below W.heap.size W t->C t) (R:∀W t,u W->Below W.heap.size W t->u t) (E:∀W t,B W->Below W.heap.size W t->B t) (M:C w.drew) (hD:u w.drew)
 (st:∀f∈l,∀v w w',f v w->Below w.heap.size w w'->f v w') (st2:∀x∈l.zipIdx,(x.2==z||lG s z s.length x.2)=true∨∀v w w',x.1 v w->Le w w'->x.1 v w')
 (H:xE P A C u B Le F (tab l) z y 0 ops.toList s)
 (fin:∀(V:Nat->Value) (w:World),F w->Q .normal (bF V ops.toList 0 A) w) :
 (Code.region id ops true).wp P Q A w:=by
 have L:∀j,j≠z->lG s z s.length j=false->∀v w w',tab l j v w->Le w w'->tab l j v w':=by exact VA
 have S:∀k,k<ops.size->k≠y->lG s k s.length y=true:=by intro k hk O;have:=List.all_eq_true.1 I k (List.mem_range.2 hk);simp only[Bool.or_eq_true,beq_iff_eq]at this;exact this.resolve_left O
 refine EO (y8 C u B l z y F) n hn hm G ?_ (Oo s D (xE.toP s D S N hz hg R E st L _ _ _ (λi=>aj) (λi=>aj) H)) λV w h=>fin V w ?_
 ·unfold y8;simp only[Bool.false_eq_true,if_false];exact⟨M,O8,λ_ h=>vR⟩
 ·unfold y8 at h;simpa [J]using h
end
theorem ai.iK{w w':World}{b:Nat}{t:TypeId}{cs:Array Value}{row:Option Nat}(h:ai w b t cs)(u:aH 0 row w w')(i:row≠some b):ai w' b t cs:=(u.block b (fw _) h.lt (λe=>i e.symm)).trans h
theorem J7{base:Nat}{w w':World}{row:Option Nat}(u:aH 0 row w w')(hb:base<=w.heap.size)(j:∀b,row=some b->base<=b):Below base w w':=by refine⟨u.os,u.tape,u.output,u.size,λi s=>u.block i (fw _) af ?_⟩;intro e;have:=j i e.symm;omega
theorem J1{α:Type}{S:cF α}{base i:Nat}{T:TypeId}{row:Option Nat}{n:Nat}{xs:List Value}{x:α}{v:Value}{W:World}(h:wu S base i T row n xs x v W):∃A m c,v=.slice A m c:=by
 obtain⟨cs,j,-⟩:=h;rcases j.2 with ⟨h,_⟩|⟨g,cap,s,h,_⟩
 ·exact⟨_,_,_,h⟩
 ·exact⟨_,_,_,h⟩
theorem apR{i B:Nat}(j:i<=B){x:aq}{v:Value}{w:World}(h:um B x v w):zM aQ i x v w:=by obtain⟨vf,y,rfl,s,t⟩:=h;exact⟨⟨_,rfl⟩,rfl,λA u=>⟨vf,y,rfl,sU (s.up (u.more j (λ_ _ _=>aj))),(t.up (aG _) (u.more j (λ_ _ _=>aj))).ar⟩⟩
theorem avS{j:Nat}{x:aq}{v:Value}{w:World}(h:zM aQ j x v w):∃vf i,v=.agg (aA x vf i):=by obtain⟨⟨u,rfl⟩,-,h⟩:=h;obtain⟨vf,i,s,-⟩:=h w (aH.rf _ _ _);refine⟨vf,i,?_⟩;have t:u.toList=Qk x vf i:=s;congr 1;exact Array.toList_inj.1 t
theorem En.ns{base g t gr:Nat}{s:bA}{r:Rec}{vl vp va vf u:Value}{c1 c2:List (List Value)}{w:World}(h:En base g t gr s r vl vp va vf u c1 c2 w):vl.ownBlock≠some t/\vp.ownBlock≠some t/\va.ownBlock≠some t/\vl.ownBlock≠some gr/\vp.ownBlock≠some gr/\va.ownBlock≠some gr:=by
 refine⟨λe=>?_,λe=>?_,λe=>?_,λe=>?_,λe=>?_,λe=>?_⟩
 ·obtain⟨j,i⟩:=gg h.st.l e;exact absurd (i.ja h.bs) au
 ·obtain⟨j,i⟩:=gg h.st.p e;exact absurd (i.ja h.bs) au
 ·obtain⟨j,i⟩:=gg h.st.a e;exact absurd (i.ja h.bs) au
 ·obtain⟨j,i⟩:=gg h.st.l e;exact absurd (i.ja h.br) au
 ·obtain⟨j,i⟩:=gg h.st.p e;exact absurd (i.ja h.br) au
 ·obtain⟨j,i⟩:=gg h.st.a e;exact absurd (i.ja h.br) au
theorem asK{base g B gr:Nat}{s:bA}{r:Rec}{vl vp va vf ve:Value}{c1 c2:List (List Value)}(w:World)(h:En base g B gr s r vl vp va vf ve c1 c2 w) :
 Calls prog 220 #[.pointer (some ⟨B,0,none⟩),.pointer (some ⟨gr,0,none⟩)] w λe w'=>Ll base g s (uH s r) w e w':=by
 have HR:Hid (uH s r=if cA s.list (fD r)then none else if dx s.ab (fD r)then none else some ⟨s.life,s.list,ia s.prom (fD r),s.ab++[fD r]⟩):=ae rfl
 generalize uH s r=R at *
 have D:=h.st.blk.cells
 have J:=h.bs.cells
 have G:=h.br.cells
 have H:=ae h
 obtain⟨-,-,O,-,-,M⟩:=h.ns
 have hsz:=h.sz
 have C1:=ae λW (i:K w W)=>AW s (fD r) _ W (h.st.st i).jr af
 have Y:=ae λW (i:K w W)=>Hs s (fD r) _ W (h.st.st i).jr af
 generalize cA s.list (fD r)=t at *
 generalize dx s.ab (fD r)=L at *
 clear h
 go_enter func220,ntmps220
 go_upto_region 1 with (fail)
 refine sR [ag (.pointer (some ⟨g,0,none⟩)),
  ag (.pointer (some ⟨g,0,none⟩)),
  ag (.agg (bS s vl vp va)),
  ag (.pointer (some ⟨gr,10,none⟩)),
  ag (cN (fD r)),
  ag (.bool t),
  ag (.bool t),
  ag (cond (!t) (.pointer (some ⟨g,0,none⟩)) undef),
  ag (cond (!t) (.pointer (some ⟨g,0,none⟩)) undef),
  ag (cond (!t) (.agg (bS s vl vp va)) undef),
  ag (cond (!t) (.pointer (some ⟨gr,10,none⟩)) undef),
  ag (cond (!t) (cN (fD r)) undef),
  ag (cond (!t) (.bool L) undef),
  ag (.bool (t||L))]
  [([],[]),([0],[(3,0)]),([1],[(4,1)]),([],[]),([3],[(6,3)]),([2,4],[(5,2),(7,4)]),([5],[(8,5)]),([6],[]),([7,6],[(10,7)]),([8,6],[(11,8)]),([6],[]),([10,6],[(13,10)]),([9,11,6],[(12,9),(14,11)]),([6,12],[(9,6),(15,12)])] 32 rfl ak ak ak ?st1 ?Gg ?_
 case st1 =>
  simp only[aI]
  and_intros
  all_goals first|exact jN _|exact iQ _|exact mz|simp
 case Gg =>
  simp only[mS]
  and_intros
  all_goals try trivial
  all_goals
   intro V W i j
   cases t
   all_goals
    try simp only[aI,aE,aF,ag]at j
    try simp[aL,aw,List.lookup,j,aE,aF,aS,execOp,ay,ag,aN,i,D,J,G,go_sem]
   all_goals first|exact⟨rfl,rfl,rfl⟩|(refine (C1.aa W i).mono ?_;rintro e w2⟨rfl,k⟩;exact⟨_,rfl,rfl,k⟩)|(refine (Y.aa W i).mono ?_;rintro e w2⟨rfl,k⟩;exact⟨_,rfl,rfl,k⟩)
 intro V W i j
 have h9:=j 13 aj
 simp only[aE,aF,ag]at h9
 clear j
 simp only[bF,Act.put,cO,cM,cL,h9]
 have H1:=ae (H.aa.st.st i)
 have kb:Below base w W:=i.mono H.aa.low
 have wQ:=H.aa.bs.below i H.aa.bs.lt
 have A:=H.aa.br.below i H.aa.br.lt
 have hlow:base<=W.heap.size:=bq H.aa.low i.size
 clear D J G h9 C1 Y
 cases t
 ·cases L
  ·have HQ:Hid (R=some ⟨s.life,s.list,ia s.prom (fD r),s.ab++[fD r]⟩):=ae fo;generalize W=y at *;go_upto_region 3 with (fail);obtain⟨C,hC⟩:∃C:World->Prop,C=λW=>aH 0 va.ownBlock y W:=⟨_,rfl⟩
   have hg:∀W W',C W->Below W.heap.size W W'->C W':=by exact KQ
   have hc0:C y:=KR;obtain⟨F,Q⟩:∃F:World->Prop,F=λW=>sD base g ⟨s.life,s.list,s.prom,s.ab++[fD r]⟩ W/\Below base y W/\ah (λk=>va.ownBlock=some k∨k=g) y W:=⟨_,rfl⟩
   have E:∀b,va.ownBlock=some b->b<y.heap.size:=λb hb=>(H1.aa.s7 hb).2.1
   refine Hr 8 11 C (λW=>W.ownsRow base 46 3 va s.ab.length (s.ab.flatMap dL)) (λ_=>True) (λW W'=>W.grownBy W' va.ownBlock) F [ag (.pointer (some ⟨g,0,none⟩)),
    ag (.pointer (some ⟨g,0,none⟩)),
    ag (.pointer (some ⟨g,0,none⟩)),
    ag (.pointer (some ⟨g,3,none⟩)),
    ag (va),
    ag (.pointer (some ⟨gr,10,none⟩)),
    ag (cN (fD r)),
    zi bI y.heap.size 46 (fD r),
    wu bI base y.heap.size 46 va.ownBlock s.ab.length (s.ab.flatMap dL) (fD r),
    ag (.pointer (some ⟨g,0,none⟩)),
    ag (.pointer (some ⟨g,3,none⟩)),
    xK]
    [([],[]),([],[]),([1],[(18,1)]),([2],[(19,2)]),([3],[(20,3)]),([],[]),([5],[(22,5)]),([6],[(23,6)]),([4,7],[(21,4),(24,7)]),([0],[(17,0)]),([9],[(26,9)]),([10,8],[(27,10),(25,8)])] 32 rfl ak ak ak au au au ak hg (λW W' h k=>fZ h k) (λ_ _ h _=>h) tS (fZ H1.aa.a (Below.drew (aN _ _))) ?Mr ?ayG ?Ms ?_
   case Mr =>
    simp only[aI]
    and_intros
    all_goals first|exact jN _|exact mz|exact Lj _ _|exact KM _ _ _|exact KO _ _ _ _ _ _ _|simp
   case ayG =>
    simp only[List.zipIdx_cons,List.zipIdx_nil,aI,fP,Nat.reduceAdd]
    and_intros
    all_goals first|exact .inl rfl|exact .inr (λ_ _ _ h _=>h)|exact .inr (KL E)|exact .inr (Ke E)|simp
   case Ms =>
    simp only[xE,nZ]
    and_intros
    all_goals try trivial
    all_goals
     simp only[Nat.reduceEqDiff,if_false,Nat.reduceAdd]
    all_goals
     first
     | (intro V w' hc hD j
        simp only[aI,aE,aF,ag]at j
        rw[hC]at hc)
     | (intro V w' hc j
        rw[hC]at hc
        have D:=(H1.aa.blk.iK hc (λe=>(H1.aa.s7 e).2.2.1 rfl)).cell
        have J:=(wQ.iK hc (λe=>O e)).cell
        have G:=(A.iK hc (λe=>M e)).cell
        try simp only[aI,aE,aF,ag]at j
        try (simp[aL,aw,List.lookup,j,aE,aF,aS,execOp,ay,ag,undef,aN,D,J,G,fD,go_sem];done))
     | skip
    ·obtain⟨h7,-⟩:=j;simp[h7,aL,aw,List.lookup,aE,aF,aS,execOp,ay,undef,go_sem];exact⟨⟨w'.heap.size,_,rfl,Du,ai.new _ _ _,rfl,λW' u=>rfl⟩,(K.rf w').al _⟩
    ·obtain⟨h1,h4,-⟩:=j;obtain⟨v',w'',hrun,h7,h5,h3⟩:=J5 (P:=prog) (S:=bI) (ρ:=aw [(21,4),(24,7)] _ V) (.tmp 21) (.tmp 24) 32 32 46 base _ 24 s.ab.length (s.ab.flatMap dL) uJ va h1 hD y.heap.size VB E Du (fD r) _ rfl h4 af;exact KS
    ·obtain⟨h6,h9,-⟩:=j;have Z:=H1.aa.blk.iK hc (λe=>(H1.aa.s7 e).2.2.1 rfl);have z:=Z.frozen;have q:=Z.cell;have X:=H1.aa.axK af hc h9;obtain⟨A9,n9,c9,e9⟩:=J1 h9;generalize hA:aw [(27,10),(25,8)] _ V=N;have zP:N (.tmp 27)=.pointer (some ⟨g,3,none⟩):=Iw;have sF:N (.tmp 25)=V 8:=Fc;rw[e9]at sF X;have qC:(execOp N (ay (.store 32 (.tmp 27) (.tmp 25)) 0)).run prog w'=.ok .skip (w'.setCell ⟨g,3,none⟩ (.slice A9 n9 c9)):=by exact Ix
     rw[qC];show F _;rw[Q];exact⟨X,(J7 hc af (λb hb=>(H1.aa.s7 hb).1)).setCell H1.aa.low _,AZ hc (ah.rf (λ_=>False) _) (λk _ e=>e.elim (λe=>.inr e) (λe=>e.elim (λe=>.inl e.symm) False.elim))⟩
   intro V W U;rw[Q]at U;obtain⟨I,Ca,T⟩:=U;have I:=ae I;clear hC hg hc0 Q E;simp only[bF,Act.put,cO,cM,cL];have Rb:s.prom.length<=1000000:=by have:=H.aa.sz;omega
   have hzz:=bq hlow Ca.size;have C3:=ae (Tj ⟨s.life,s.list,s.prom,s.ab++[fD r]⟩ (fD r) base g W I.aa Rb hzz);have iN:B≠g:=afz;have hgr:gr≠g:=by rintro rfl;exact absurd (A.ja H1.aa.blk) (by decide)
   have Y4:=(show ai W B _ _ from (T.block B wQ.lt (λe=>e.elim O iN)).trans wQ).cell;have qr2:=(show ai W gr _ _ from (T.block gr A.lt (λe=>e.elim M hgr)).trans A).cell;clear T I wQ A H1 O M;go_wp2_with fail
   refine C3.aa.mono ?_;rintro e w3⟨rfl,hs,hb⟩;have HS:=ae hs;clear hs;go_wp2;go_ret;exact⟨jL,O7,(kb.trans Ca).trans hb⟩
  ·have HQ:Hid (R=none):=ae fo;exact O9
 ·have HQ:Hid (R=none):=ae fo;rw[show (true||L)=true from rfl];exact O9
theorem asL{base g gs gr:Nat}{s:bA}{r:Rec}{vl vp va vf ve:Value}{c1 c2:List (List Value)}(w:World)(h:En base g gs gr s r vl vp va vf ve c1 c2 w) :
 Calls prog 219 #[.pointer (some ⟨gr,0,none⟩),.pointer (some ⟨gs,0,none⟩)] w λe w'=>Ll base g s (uE s r) w e w':=by
 have HR:Hid (uE s r=if cA s.list (ax r.e)then none else if cA s.prom (ax r.e)then none else if dx s.ab (ax r.e)then none else some ⟨s.life,s.list,s.prom++[r.e],s.ab⟩):=ae rfl
 generalize uE s r=R at *
 have H:=ae h
 have hns:=h.ns.2.1
 have Er:=h.ns.2.2.2.2.1
 have hsz:=h.sz
 have gY:=h.sm
 have C1:=ae λW (t:K w W)=>AW s (ax r.e) _ W (H.aa.st.st t).jr af
 have C2:=ae λW (t:K w W)=>JR s (ax r.e) _ W (H.aa.st.st t).jr af
 have C3:=ae λW (t:K w W)=>Hs s (ax r.e) _ W (H.aa.st.st t).jr af
 generalize cA s.list (ax r.e)=i at *
 generalize cA s.prom (ax r.e)=j at *
 generalize dx s.ab (ax r.e)=B at *
 have N:=ai.new w 46 #[.int .i64 r.e.br,.int .u64 (r.e.life:Int),.int .u64 (r.e.cI:Int)]
 have E:K w (w.alloc (.cells #[.int .i64 r.e.br,.int .u64 (r.e.life:Int),.int .u64 (r.e.cI:Int)] 46)):=(K.rf w).al _
 have Y:=h.br.cell
 clear h
 go_enter func219,ntmps219
 go_upto_region 2 with (fail)
 generalize w.alloc _=y at *
 generalize hgi:w.heap.size=gi at N⊢
 have qx:=N.cells
 have hs1:=H.aa.st.st E
 have M:=H.aa.bs.below E H.aa.bs.lt
 have G:=H.aa.br.below E H.aa.br.lt
 have I:=hs1.blk.cells
 have L:=M.cells
 have Q:=G.cells
 clear Y
 refine sR [ag (.pointer (some ⟨g,0,none⟩)),
  ag (.pointer (some ⟨g,0,none⟩)),
  ag (.agg (bS s vl vp va)),
  ag (cN (ax r.e)),
  ag (.bool i),
  ag (.bool i),
  ag (cond (!i) (.pointer (some ⟨g,0,none⟩)) undef),
  ag (cond (!i) (.pointer (some ⟨g,0,none⟩)) undef),
  ag (cond (!i) (.agg (bS s vl vp va)) undef),
  ag (cond (!i) (cN (ax r.e)) undef),
  ag (cond (!i) (.bool j) undef),
  ag (.bool (i||j)),
  ag (.bool (i||j)),
  ag (cond (!(i||j)) (.pointer (some ⟨g,0,none⟩)) undef),
  ag (cond (!(i||j)) (.pointer (some ⟨g,0,none⟩)) undef),
  ag (cond (!(i||j)) (.agg (bS s vl vp va)) undef),
  ag (cond (!(i||j)) (cN (ax r.e)) undef),
  ag (cond (!(i||j)) (.bool B) undef),
  ag (.bool ((i||j)||B))]
  [([],[]),([0],[(7,0)]),([1],[(8,1)]),([],[]),([2,3],[(9,2),(10,3)]),([4],[(11,4)]),([5],[]),([6,5],[(13,6)]),([7,5],[(14,7)]),([5],[]),([8,9,5],[(15,8),(16,9)]),([5,10],[(12,5),(17,10)]),([11],[(18,11)]),([12],[]),([13,12],[(20,13)]),([14,12],[(21,14)]),([12],[]),([15,16,12],[(22,15),(23,16)]),([12,17],[(19,12),(24,17)])] 38 rfl ak ak ak ?st2 ?Y8 ?_
 case st2 =>
  simp only[aI]
  and_intros
  all_goals first|exact jN _|exact iQ _|exact mz|simp
 case Y8 =>
  simp only[mS]
  and_intros
  all_goals try trivial
  all_goals
   intro V W t hp
   have A:=E.tr t
   cases i <;> cases j
   all_goals
    try simp only[aI,aE,aF,ag]at hp
    try simp[aL,aw,List.lookup,hp,aE,aF,aS,execOp,ay,ag,aN,t,I,L,qx,go_sem]
  all_goals first|exact⟨rfl,rfl,rfl⟩|(refine (C1.aa W A).mono ?_;rintro e w2⟨rfl,k⟩;exact⟨_,rfl,rfl,k⟩)|(refine (C2.aa W A).mono ?_;rintro e w2⟨rfl,k⟩;exact⟨_,rfl,rfl,k⟩)|(refine (C3.aa W A).mono ?_;rintro e w2⟨rfl,k⟩;exact⟨_,rfl,rfl,k⟩)
 intro V W t hp
 have h9:=hp 18 aj
 simp only[aE,aF,ag]at h9
 clear hp
 simp only[bF,Act.put,cO,cM,cL,h9]
 have A:=E.tr t
 have H1:=ae (H.aa.st.st A)
 have kb:Below base w W:=A.mono H.aa.low
 have wQ:=M.below t M.lt
 have wR:=G.below t G.lt
 have hlow:base<=W.heap.size:=bq H.aa.low A.size
 have Gh:=ae λW' (u:ah (λk=>k=g∨vl.ownBlock=some k∨vp.ownBlock=some k∨va.ownBlock=some k) W W')=>H.aa.en W' ((ah.bg A _).tr u)
 clear I L Q qx h9 C1 C2 C3 hs1 M G N
 by_cases D:((i||j)||B)=true
 ·rw[D];have HQ:Hid (R=none):=ae (by rw[HR.aa];revert D;cases i <;> cases j <;> cases B <;> simp);clear D;exact O9
 have U:((i||j)||B)=false:=by simpa using D
 rw[U]
 have hall:i=false/\j=false/\B=false:=by revert U;cases i <;> cases j <;> cases B <;> simp
 clear D U
 obtain⟨rfl,rfl,rfl⟩:=hall
 have HQ:Hid (R=some ⟨s.life,s.list,s.prom++[r.e],s.ab⟩):=ae fo
 generalize W=y at *
 have Y:=wR.cell
 go_upto_region 4 with (fail)
 clear Y
 obtain⟨C,hC⟩:∃C:World->Prop,C=λW=>aH 0 vp.ownBlock y W:=⟨_,rfl⟩
 have hg:∀W W',C W->Below W.heap.size W W'->C W':=by exact KQ
 have hc0:C y:=KR
 obtain⟨F,X⟩:∃F:World->Prop,F=λW=>sD base g ⟨s.life,s.list,s.prom++[r.e],s.ab⟩ W/\Below base y W/\ah (λk=>vp.ownBlock=some k∨k=g) y W:=⟨_,rfl⟩
 have J:∀b,vp.ownBlock=some b->b<y.heap.size:=λb hb=>(H1.aa.mY hb).2.1
 refine Hr 9 12 C (λW=>W.ownsRow base 102 8 vp s.prom.length c2.flatten) (λ_=>True) (λW W'=>W.grownBy W' vp.ownBlock) F [ag (.pointer (some ⟨g,0,none⟩)),
  ag (.pointer (some ⟨g,0,none⟩)),
  ag (.pointer (some ⟨g,0,none⟩)),
  ag (.pointer (some ⟨g,2,none⟩)),
  ag (vp),
  ag (.pointer (some ⟨gr,2,none⟩)),
  ag (.agg (aA r.e vf ve)),
  zM aQ y.heap.size r.e,
  zi aQ y.heap.size 102 r.e,
  wu aQ base y.heap.size 102 vp.ownBlock s.prom.length c2.flatten r.e,
  ag (.pointer (some ⟨g,0,none⟩)),
  ag (.pointer (some ⟨g,2,none⟩)),
  xK]
  [([],[]),([],[]),([1],[(27,1)]),([2],[(28,2)]),([3],[(29,3)]),([],[]),([5],[(31,5)]),([6],[(32,6)]),([7],[(33,7)]),([4,8],[(30,4),(34,8)]),([0],[(26,0)]),([10],[(36,10)]),([11,9],[(37,11),(35,9)])] 38 rfl ak ak ak au au au ak hg (λW W' h k=>fZ h k) (λ_ _ h _=>h) tS (fZ H1.aa.p (Below.drew (aN _ _))) ?F6 ?X6 ?F9 ?_
 case F6 =>
  simp only[aI]
  and_intros
  all_goals first|exact jN _|exact mz|exact Lj _ _|exact KM _ _ _|exact KO _ _ _ _ _ _ _|simp
 case X6 =>
  simp only[List.zipIdx_cons,List.zipIdx_nil,aI,fP,Nat.reduceAdd]
  and_intros
  all_goals first|exact .inl rfl|exact .inr (λ_ _ _ h _=>h)|exact .inr (KL J)|exact .inr (Ke J)|simp
 case F9 =>
  simp only[xE,nZ]
  and_intros
  all_goals try trivial
  all_goals
   simp only[Nat.reduceEqDiff,if_false,Nat.reduceAdd]
  all_goals
   first
   | (intro V w' hc hD hp
      simp only[aI,aE,aF,ag]at hp
      rw[hC]at hc)
   | (intro V w' hc hp
      rw[hC]at hc
      have I:=(H1.aa.blk.iK hc (λe=>(H1.aa.mY e).2.2.1 rfl)).cell
      have L:=(wQ.iK hc (λe=>hns e)).cell
      have Q:=(wR.iK hc (λe=>Er e)).cell
      try simp only[aI,aE,aF,ag]at hp
      try (simp[aL,aw,List.lookup,hp,aE,aF,aS,execOp,ay,ag,undef,aN,I,L,Q,go_sem];done))
   | skip
  ·simp only[if_pos (show aL V none=true from rfl)];simp[aw,List.lookup,hp,aE,aF,aS,execOp,ay,go_sem];refine (Tt r.e _ w' (Gh.aa w' (hc.Ei (λk hk=>hk.elim (λh=>af) (λh=>.inr (.inr (.inl h.symm)))))) gY).mono ?_;exact VC
  ·exact Pa
  ·obtain⟨h1,h4,-⟩:=hp;obtain⟨v',w'',hrun,h7,h5,h3⟩:=J5 (P:=prog) (S:=aQ) (ρ:=aw [(30,4),(34,8)] _ V) (.tmp 30) (.tmp 34) 39 39 102 base _ 96 s.prom.length c2.flatten rG vp h1 hD y.heap.size VB J Du r.e _ rfl h4 af;exact KS
  ·obtain⟨h6,h9,-⟩:=hp;have bo:=H1.aa.blk.iK hc (λe=>(H1.aa.mY e).2.2.1 rfl);have z:=bo.frozen;have q:=bo.cell;have tm:=H1.aa.ajX af hc h9;obtain⟨A9,n9,c9,e9⟩:=J1 h9;generalize hA:aw [(37,11),(35,9)] _ V=O;have zP:O (.tmp 37)=.pointer (some ⟨g,2,none⟩):=Iw;have sF:O (.tmp 35)=V 9:=Fc;rw[e9]at sF tm;have qC:(execOp O (ay (.store 39 (.tmp 37) (.tmp 35)) 0)).run prog w'=.ok .skip (w'.setCell ⟨g,2,none⟩ (.slice A9 n9 c9)):=by exact Ix
   rw[qC];show F _;rw[X];exact⟨tm,(J7 hc af (λb hb=>(H1.aa.mY hb).1)).setCell H1.aa.low _,AZ hc (ah.rf (λ_=>False) _) (λk _ e=>e.elim (λe=>.inr e) (λe=>e.elim (λe=>.inl e.symm) False.elim))⟩
 intro V W Z
 rw[X]at Z
 obtain⟨T,Ca,Cb⟩:=Z
 have T:=ae T
 clear hC hg hc0 X J
 simp only[bF,Act.put,cO,cM,cL]
 go_wp2
 go_ret
 exact⟨jL,by rw[HQ.aa];exact T.aa,kb.trans Ca⟩
theorem asM{base g L gr:Nat}{s:bA}{r:Rec}{vl vp va vf ve:Value}{c1 c2:List (List Value)}(w:World)(h:En base g L gr s r vl vp va vf ve c1 c2 w) :
 Calls prog 216 #[.pointer (some ⟨gr,0,none⟩),.pointer (some ⟨L,0,none⟩)] w λe w'=>Ll base g s (uD s r) w e w':=by
 obtain⟨t,cl,rfl⟩:=az (AU (S:=aQ) h.st.l (h.st.el w (ah.rf _ _)).1)
 have HR:Hid (uD s r=if ¬r.n=s.list.length then none else if cA s.list (ax r.e)then none else if dx s.ab (ax r.e)then none else some ⟨s.life,s.list++[r.e],ia s.prom (ax r.e),s.ab⟩):=ae rfl
 generalize uD s r=R at *
 have H:=ae h
 have hns:=h.ns.1
 have Er:=h.ns.2.2.2.1
 have hsz:=h.sz
 have gY:=h.sm
 have C1:=ae λW (y:K w W)=>AW s (ax r.e) _ W (H.aa.st.st y).jr af
 have T:=ae λW (y:K w W)=>Hs s (ax r.e) _ W (H.aa.st.st y).jr af
 generalize cA s.list (ax r.e)=j at *
 generalize dx s.ab (ax r.e)=B at *
 have hwr:IntKind.u64.wrap (s.list.length:Int)=(s.list.length:Int):=by simp only[IntKind.wrap,show (2:Int)^IntKind.u64.bits=18446744073709551616 from rfl];rw[Int.emod_eq_of_lt (by omega) (by omega)];simp[show IntKind.u64.signed=false from rfl]
 obtain⟨i,Z⟩:∃b,decide (¬r.n=s.list.length)=b:=⟨_,rfl⟩
 have HR:=ae (show R=if i=true then none else if j=true then none else if B=true then none else some ⟨s.life,s.list++[r.e],ia s.prom (ax r.e),s.ab⟩ by rw[HR.aa,<- Z];simp)
 have E:=ai.new w 46 #[.int .i64 r.e.br,.int .u64 (r.e.life:Int),.int .u64 (r.e.cI:Int)]
 have J:K w (w.alloc (.cells #[.int .i64 r.e.br,.int .u64 (r.e.life:Int),.int .u64 (r.e.cI:Int)] 46)):=(K.rf w).al _
 have q2:=h.br.cell
 clear h
 go_enter func216,ntmps216
 go_upto_region 2 with (fail)
 generalize w.alloc _=A at *
 generalize hgi:w.heap.size=gi at E⊢
 have qx:=E.cells
 have hs1:=H.aa.st.st J
 have Y:=H.aa.bs.below J H.aa.bs.lt
 have M:=H.aa.br.below J H.aa.br.lt
 have N:=hs1.blk.cells
 have X:=Y.cells
 have Q:=M.cells
 clear q2
 refine sR [ag (.pointer (some ⟨gr,1,none⟩)),
  ag (.int .u64 (r.n:Int)),
  ag (.pointer (some ⟨g,0,none⟩)),
  ag (.pointer (some ⟨g,0,none⟩)),
  ag (.pointer (some ⟨g,1,none⟩)),
  ag (.slice t s.list.length cl),
  ag (.int .i64 ((s.list.length:Int))),
  ag (.int .u64 (s.list.length:Int)),
  ag (.bool i),
  ag (.bool i),
  ag (cond (!i) (.pointer (some ⟨g,0,none⟩)) undef),
  ag (cond (!i) (.pointer (some ⟨g,0,none⟩)) undef),
  ag (cond (!i) (.agg (bS s (.slice t s.list.length cl) vp va)) undef),
  ag (cond (!i) (cN (ax r.e)) undef),
  ag (cond (!i) (.bool j) undef),
  ag (.bool (i||j)),
  ag (.bool (i||j)),
  ag (cond (!(i||j)) (.pointer (some ⟨g,0,none⟩)) undef),
  ag (cond (!(i||j)) (.pointer (some ⟨g,0,none⟩)) undef),
  ag (cond (!(i||j)) (.agg (bS s (.slice t s.list.length cl) vp va)) undef),
  ag (cond (!(i||j)) (cN (ax r.e)) undef),
  ag (cond (!(i||j)) (.bool B) undef),
  ag (.bool ((i||j)||B))]
  [([],[]),([0],[(7,0)]),([],[]),([2],[(9,2)]),([3],[(10,3)]),([4],[(11,4)]),([5],[(12,5)]),([6],[(13,6)]),([1,7],[(8,1),(14,7)]),([8],[(15,8)]),([9],[]),([10,9],[(17,10)]),([11,9],[(18,11)]),([9],[]),([12,13,9],[(19,12),(20,13)]),([9,14],[(16,9),(21,14)]),([15],[(22,15)]),([16],[]),([17,16],[(24,17)]),([18,16],[(25,18)]),([16],[]),([19,20,16],[(26,19),(27,20)]),([16,21],[(23,16),(28,21)])] 45 rfl ak ak ak ?st2 ?Y8 ?_
 case st2 =>
  simp only[aI]
  and_intros
  all_goals first|exact jN _|exact iQ _|exact mz|simp
 case Y8 =>
  simp only[mS]
  and_intros
  all_goals try trivial
  all_goals
   intro V W y hp
   have D:=J.tr y
   cases i <;> cases j
   all_goals
    try simp only[aI,aE,aF,ag]at hp
    try simp[aL,aw,List.lookup,hp,aE,aF,aS,execOp,ay,ag,aN,y,N,X,Q,qx,hwr,go_sem]
  all_goals first|exact⟨rfl,rfl,rfl⟩|(simp only[decide_eq_true_eq,decide_eq_false_iff_not]at Z;omega)|(refine (C1.aa W D).mono ?_;rintro e w2⟨rfl,k⟩;exact⟨_,rfl,rfl,k⟩)|(refine (T.aa W D).mono ?_;rintro e w2⟨rfl,k⟩;exact⟨_,rfl,rfl,k⟩)
 intro V W y hp
 have h9:=hp 22 aj
 simp only[aE,aF,ag]at h9
 clear hp
 simp only[bF,Act.put,cO,cM,cL,h9]
 have D:=J.tr y
 have H1:=ae (H.aa.st.st D)
 have kb:Below base w W:=D.mono H.aa.low
 have wQ:=Y.below y Y.lt
 have wR:=M.below y M.lt
 have G:=E.below y E.lt
 have hlow:base<=W.heap.size:=bq H.aa.low D.size
 have Gh:=ae λW' (u:ah (λk=>k=g∨(Value.slice t s.list.length cl).ownBlock=some k∨vp.ownBlock=some k∨va.ownBlock=some k) W W')=>H.aa.en W' ((ah.bg D _).tr u)
 clear N X Q qx h9 C1  T hs1 Y M E
 by_cases I:((i||j)||B)=true
 ·rw[I];have HQ:Hid (R=none):=ae (by rw[HR.aa];revert I;cases i <;> cases j <;> cases B <;> simp);clear I Z;exact O9
 have Fu:((i||j)||B)=false:=by simpa using I
 rw[Fu]
 have hall:i=false/\j=false/\B=false:=by revert Fu;cases i <;> cases j <;> cases B <;> simp
 clear I Fu Z
 obtain⟨rfl,rfl,rfl⟩:=hall
 have HQ:Hid (R=some ⟨s.life,s.list++[r.e],ia s.prom (ax r.e),s.ab⟩):=ae fo
 generalize W=A at *
 have q2:=wR.cell
 go_upto_region 4 with (fail)
 clear q2
 obtain⟨C,hC⟩:∃C:World->Prop,C=λW=>aH 0 (Value.slice t s.list.length cl).ownBlock A W:=⟨_,rfl⟩
 have hg:∀W W',C W->Below W.heap.size W W'->C W':=by exact KQ
 have hc0:C A:=KR
 obtain⟨F,hF⟩:∃F:World->Prop,F=λW=>sD base g ⟨s.life,s.list++[r.e],s.prom,s.ab⟩ W/\Below base A W/\ah (λk=>(Value.slice t s.list.length cl).ownBlock=some k∨k=g) A W:=⟨_,rfl⟩
 have O:∀b,(Value.slice t s.list.length cl).ownBlock=some b->b<A.heap.size:=λb hb=>(H1.aa.oO hb).2.1
 refine Hr 9 12 C (λW=>W.ownsRow base 102 8 (.slice t s.list.length cl) s.list.length c1.flatten) (λ_=>True) (λW W'=>W.grownBy W' (Value.slice t s.list.length cl).ownBlock) F [ag (.pointer (some ⟨g,0,none⟩)),
  ag (.pointer (some ⟨g,0,none⟩)),
  ag (.pointer (some ⟨g,0,none⟩)),
  ag (.pointer (some ⟨g,1,none⟩)),
  ag (.slice t s.list.length cl),
  ag (.pointer (some ⟨gr,2,none⟩)),
  ag (.agg (aA r.e vf ve)),
  zM aQ A.heap.size r.e,
  zi aQ A.heap.size 102 r.e,
  wu aQ base A.heap.size 102 (Value.slice t s.list.length cl).ownBlock s.list.length c1.flatten r.e,
  ag (.pointer (some ⟨g,0,none⟩)),
  ag (.pointer (some ⟨g,1,none⟩)),
  xK]
  [([],[]),([],[]),([1],[(31,1)]),([2],[(32,2)]),([3],[(33,3)]),([],[]),([5],[(35,5)]),([6],[(36,6)]),([7],[(37,7)]),([4,8],[(34,4),(38,8)]),([0],[(30,0)]),([10],[(40,10)]),([11,9],[(41,11),(39,9)])] 45 rfl ak ak ak au au au ak hg (λW W' h k=>fZ h k) (λ_ _ h _=>h) tS (fZ H1.aa.l (Below.drew (aN _ _))) ?F6 ?X6 ?F9 ?_
 case F6 =>
  simp only[aI]
  and_intros
  all_goals first|exact jN _|exact mz|exact Lj _ _|exact KM _ _ _|exact KO _ _ _ _ _ _ _|simp
 case X6 =>
  simp only[List.zipIdx_cons,List.zipIdx_nil,aI,fP,Nat.reduceAdd]
  and_intros
  all_goals first|exact .inl rfl|exact .inr (λ_ _ _ h _=>h)|exact .inr (KL O)|exact .inr (Ke O)|simp
 case F9 =>
  simp only[xE,nZ]
  and_intros
  all_goals try trivial
  all_goals
   simp only[Nat.reduceEqDiff,if_false,Nat.reduceAdd]
  all_goals
   first
   | (intro V w' hc hD hp
      simp only[aI,aE,aF,ag]at hp
      rw[hC]at hc)
   | (intro V w' hc hp
      rw[hC]at hc
      have N:=(H1.aa.blk.iK hc (λe=>(H1.aa.oO e).2.2.1 rfl)).cell
      have X:=(wQ.iK hc (λe=>hns e)).cell
      have Q:=(wR.iK hc (λe=>Er e)).cell
      try simp only[aI,aE,aF,ag]at hp
      try (simp[aL,aw,List.lookup,hp,aE,aF,aS,execOp,ay,ag,undef,aN,N,X,Q,go_sem];done))
   | skip
  ·simp only[if_pos (show aL V none=true from rfl)];simp[aw,List.lookup,hp,aE,aF,aS,execOp,ay,go_sem];refine (Tt r.e _ w' (Gh.aa w' (hc.Ei (λk hk=>hk.elim (λh=>af) (λh=>.inr (.inl h.symm))))) gY).mono ?_;exact VC
  ·exact Pa
  ·obtain⟨h1,h4,-⟩:=hp;obtain⟨v',w'',hrun,h7,h5,h3⟩:=J5 (P:=prog) (S:=aQ) (ρ:=aw [(34,4),(38,8)] _ V) (.tmp 34) (.tmp 38) 39 39 102 base _ 96 s.list.length c1.flatten rG (.slice t s.list.length cl) h1 hD A.heap.size VB O Du r.e _ rfl h4 af;exact KS
  ·obtain⟨h6,h9,-⟩:=hp;have bo:=H1.aa.blk.iK hc (λe=>(H1.aa.oO e).2.2.1 rfl);have z:=bo.frozen;have q:=bo.cell;have tm:=H1.aa.ajW af hc h9;obtain⟨A9,n9,c9,e9⟩:=J1 h9;generalize hA:aw [(41,11),(39,9)] _ V=fu;have zP:fu (.tmp 41)=.pointer (some ⟨g,1,none⟩):=Iw;have sF:fu (.tmp 39)=V 9:=Fc;rw[e9]at sF tm;have qC:(execOp fu (ay (.store 39 (.tmp 41) (.tmp 39)) 0)).run prog w'=.ok .skip (w'.setCell ⟨g,1,none⟩ (.slice A9 n9 c9)):=by exact Ix
   rw[qC];show F _;rw[hF];exact⟨tm,(J7 hc af (λb hb=>(H1.aa.oO hb).1)).setCell H1.aa.low _,AZ hc (ah.rf (λ_=>False) _) (λk _ e=>e.elim (λe=>.inr e) (λe=>e.elim (λe=>.inl e.symm) False.elim))⟩
 intro V W mJ
 rw[hF]at mJ
 obtain⟨U,Ca,Cb⟩:=mJ
 have U:=ae U
 clear hC hg hc0 hF O
 simp only[bF,Act.put,cO,cM,cL]
 have Rb:s.prom.length<=1000000:=af
 have hzz:=bq hlow Ca.size
 have T:=ae (Tj ⟨s.life,s.list++[r.e],s.prom,s.ab⟩ (ax r.e) base g W U.aa Rb hzz)
 have iN:L≠g:=afz
 have hgg:gi≠g:=by rintro rfl;exact absurd (G.ja H1.aa.blk) (by decide)
 have hgv:(Value.slice t s.list.length cl).ownBlock≠some gi:=λe=>by obtain⟨cur,h1⟩:=gg H1.aa.l e;exact absurd (h1.ja G) (by decide)
 have Y4:=(show ai W L _ _ from (Cb.block L wQ.lt (λe=>e.elim hns iN)).trans wQ).cell
 have BZ:=(show ai W gi _ _ from (Cb.block gi G.lt (λe=>e.elim hgv hgg)).trans G).cell
 clear Cb U wQ wR G H1 Gh hns Er
 go_wp2_with fail
 refine T.aa.mono ?_
 rintro e w3⟨rfl,hs,hb⟩
 have HS:=ae hs
 clear hs
 go_wp2
 go_ret
 exact⟨jL,O7,(kb.trans Ca).trans hb⟩
section
open Go Go.RowKit Go.ChangeMaps
def DQ(h:List (Int×Value))(k:Int):Option Value:=(h.find? λp=>p.1==k).map (·.2)
def BG(w:World)(b:Nat)(h:List (Int×Value)):Prop :=
 ∃(es:Array MapEntry) (c:Nat),w.heap[b]?=some (.map es c)/\es.toList.map (λe=>(e.key,e.val))=h.map λp=>(Value.int .i64 p.1,p.2)
theorem BG.new(w:World):BG (w.alloc (.map #[] 0)) w.heap.size []:=⟨#[],0,heap_alloc_new w _,rfl⟩
theorem TZ(k:Int):∀(es:List MapEntry) (aY:List (Int×Value)) (i:Nat),es.map (λe=>(e.key,e.val))=aY.map (λp=>(Value.int .i64 p.1,p.2)) ->
 ∃r,Instr.findNow (.int .i64) (.int .i64 k) es i=some r/\r.map (·.2)=DQ aY k
 | [],[],i,_=>⟨none,rfl,rfl⟩
 | [],_ :: _,i,h=>yQ
 | _ :: _,[],i,h=>yQ
 | e :: es,p :: aY,i,h=>by
  simp only[j9,List.cons.injEq,Prod.mk.injEq]at h;obtain⟨⟨t,u⟩,y⟩:=h;obtain⟨r,j,s⟩:=TZ k es aY (i+1) y;unfold Instr.findNow;rw[t];by_cases hk:p.1=k
  ·subst hk;exact⟨some (i,e.val),by simp[Instr.sameNow],by simp[DQ,u]⟩
  ·refine⟨r,?_,?_⟩
   ·have:(k==p.1)=false:=by simp;exact λe=>hk e.symm
    simp[Instr.sameNow,this,j]
   ·rw[s];unfold DQ;rw[List.find?_cons_of_neg pc]
section
variable {P:Program}
theorem aoi{K:TypeId}(h:P.underlying K=some (.int .i64))(k:Int)(i:Bool)(n:Nat)(w:World):(Instr.checkKey i (n+1) K (.int .i64 k)).run P w=.ok () w:=by simp[Instr.checkKey,run_underlying h]
theorem NP{K:TypeId}(i:P.underlying K=some (.int .i64))(k:Int)(h:Bool)(w:World):(Instr.checkKey h 10000 K (.int .i64 k)).run P w=.ok () w:=aoi i k h 9999 w
theorem aq8{t K E:TypeId}(B:P.underlying t=some (.map K E))(A:P.underlying K=some (.int .i64)){w:World}{b:Nat}{s:List (Int×Value)}(h:BG w b s)(k:Int)(v:Value)(hn:DQ s k=none) :
 ∃w',(Instr.mapUpdate t (.map (some b)) (.int .i64 k) v).run P w=.ok () w'/\BG w' b (s++[(k,v)])/\w.grownBy w' (some b):=by
 obtain⟨es,c,j,y⟩:=h
 obtain⟨r,D,u⟩:=TZ k es.toList s 0 y
 have C:r=none:=by
  cases r with
  | none=>rfl
  | some x=>rw[hn]at u;cases u
 subst C
 refine⟨setBlock w b (.map (es.push ⟨.int .i64 k,v,c⟩) (c+1)),?_,⟨_,_,heap_setBlock_same j _,?_⟩,⟨rfl,rfl,rfl,by simp[setBlock],λi _ F=>heap_setBlock_other j _ (λe=>F Dv)⟩⟩
 ·simp[Instr.mapUpdate,run_underlying B,MapKept.run_getObj_map j,NP A,Instr.findKey,run_underlying A,D,MapKept.run_setObj_map _ j,Result.andThen,setBlock]
 ·simp[y]
theorem tN{t K E:TypeId}(s:P.underlying t=some (.map K E))(j:P.underlying K=some (.int .i64)){w:World}{z:Value}(hz:(zeroValue E).run P w=.ok z w){b:Nat}{i:List (Int×Value)}(h:BG w b i)(k:Int) :
 (Instr.lookup t (.map (some b)) (.int .i64 k) true).run P w=.ok (.tuple #[(DQ i k).getD z,.bool (DQ i k).isSome]) w:=by
 obtain⟨es,c,u,B⟩:=h
 obtain⟨r,y,A⟩:=TZ k es.toList i 0 B
 rw[<- A]
 cases r with
 | none=>simp[Instr.lookup,run_underlying s,MapKept.run_getObj_map u,NP j,Instr.findKey,run_underlying j,y,hz,Result.andThen]
 | some x=>simp[Instr.lookup,run_underlying s,MapKept.run_getObj_map u,NP j,Instr.findKey,run_underlying j,y,Result.andThen]
theorem vI(w:World){ops:Array Oper}{rest:List Oper}{o:Oper}{a:Act}{Q:Exit->Act->World->Prop}
 (hg:o.guard=none) (m x v:Operand) (t:TypeId) (F:o.op=Op.insert t m x v) (K E:TypeId) (s:P.underlying t=some (.map K E)) (D:P.underlying K=some (.int .i64))
 (b:Nat) (h:List (Int×Value)) (hm:a.eval m=.map (some b)) (B:BG w b h) (k:Int) (j:a.eval x=.int .i64 k) (val:Value) (u:a.eval v=val) (hn:DQ h k=none)
 (y:∀w',BG w' b (h++[(k,val)])->w.grownBy w' (some b)->wpList P ops Q rest (a.put o.dst undef) w'):wpList P ops Q (o :: rest) a w:=by
 refine wpList_plain hg λH G=>?_
 obtain⟨w',C,i,A⟩:=aq8 s D B k val hn
 unfold Oper.wp
 simp[execOp,F,hm,j,u,C,Result.andThen]
 exact G _ _ (y w' i A)
end
end
theorem asN{s:bA}{r:Rec}(h:gh r=false):pX s r=(s,110):=by simp[pX,h]
def ayI(s:bA):Option bA->bA×Int
 | none=>(s,160)
 | some t=>(t,0)
theorem Ij{s:bA}{r:Rec}{o:Option bA}(h:gh r=true)(e:fh s r=o):pX s r=ayI s o:=by subst e;simp only[pX,h,if_true];cases fh s r <;> rfl
theorem axP{s:bA}{r:Rec}(h:r.kind=1):fh s r=wO s r:=by simp[fh,h]
theorem axQ{s:bA}{r:Rec}(h:r.kind=2):fh s r=uD s r:=by simp[fh,h]
theorem axR{s:bA}{r:Rec}(h:r.kind=3):fh s r=uE s r:=by simp[fh,h]
theorem axS{s:bA}{r:Rec}(h:r.kind=4):fh s r=uH s r:=by simp[fh,h]
theorem axT{s:bA}{r:Rec}(h:r.kind=5):fh s r=wP s r:=by simp[fh,h]
theorem auy{r:Rec}(h:gh r=true):r.kind=1∨r.kind=2∨r.kind=3∨r.kind=4∨r.kind=5:=by rcases AR h with ⟨g,_⟩|⟨g,_⟩|⟨g,_⟩ <;> omega
structure Rc(base g:Nat)(s:bA)(r:Rec)(vl vp va v:Value)(c1 c2:List (List Value))(w:World):Prop where
 st:gT base g s vl vp va c1 c2 w
 rc:∀W,ah (λk=>k=g∨vl.ownBlock=some k∨vp.ownBlock=some k∨va.ownBlock=some k) w W->qh r v W
 low:base<=w.heap.size
 sz:s.list.length<=900000/\s.prom.length<=900000/\s.ab.length<=900000
 sm:eD r.e
 fit:nX r
theorem Rc.onV{base g j gr:Nat}{s:bA}{r:Rec}{vl vp va vf i:Value}{c1 c2:List (List Value)}{w:World}(h:Rc base g s r vl vp va (.agg (eH r vf i)) c1 c2 w){W:World}(k:K w W)(C:ai W j 228 #[.pointer (some ⟨g,0,none⟩)])(B:ai W gr 190 (eH r vf i)) :
 En base g j gr s r vl vp va vf i c1 c2 W:=by
 refine⟨h.st.st k,C,B,λt u=>?_,bq h.low k.size,h.sz,h.sm⟩
 obtain⟨D,E,e,A,y⟩:=h.rc t ((ah.bg k _).tr u)
 injection e with e
 have e:=congrArg Array.toList e
 simp at e
 obtain⟨rfl,rfl⟩:=e
 exact⟨_,_,rfl,A,y⟩
theorem auz{base g:Nat}{s:bA}{r:Rec}{vl vp va v:Value}{c1 c2:List (List Value)}(w:World)(h:Rc base g s r vl vp va v c1 c2 w) :
 Calls prog 161 #[.pointer (some ⟨g,0,none⟩),v] w λe w'=>e=.returned (.int .i64 (pX s r).2)/\sD base g (pX s r).1 w'/\Below base w w':=by
 obtain⟨vf,I,rfl,-,-⟩:=h.rc w (ah.rf _ _)
 have H:=ae h
 have C1:=ae λW (k:K w W)=>aq2 r (.agg (eH r vf I)) W (h.rc W (ah.bg k _)) h.fit
 have X:=(ai.new w 228 #[.pointer (some ⟨g,0,none⟩)]).alloc (.cells (eH r vf I) 190)
 have F:=ai.new (w.alloc (.cells #[.pointer (some ⟨g,0,none⟩)] 228)) 190 (eH r vf I)
 have V:K w ((w.alloc (.cells #[.pointer (some ⟨g,0,none⟩)] 228)).alloc (.cells (eH r vf I) 190)):=((K.rf w).al _).al _
 rw[World.size_alloc]at F
 have hmm:=@run_makeMap prog
 have y:∀W:World,(zeroValue 24).run prog W=.ok .nilFunc W:=λW=>ak
 clear h
 go_enter func161,ntmps161
 go_wp2_with fail
 generalize World.alloc (World.alloc w _) _=w1 at *
 generalize iN:w.heap.size=u at *
 refine (C1.aa w1 V).mono ?_
 rintro e t⟨vb,rfl,-,O⟩
 have Y:=V.tr O
 have dX:=X.below O X.lt
 have R:=F.below O F.lt
 clear X F V O C1
 cases hok:gh r
 ·have HQ:=ae (asN (s:=s) hok);have C:rW r=110:=E9;rw[C];have HS:=ae (H.aa.st.st Y);have kb:Below base w t:=Y.mono H.aa.low;clear hok C;go_wp2;go_ret;exact⟨jL,by rw[HQ.aa];exact⟨_,_,_,_,_,HS.aa⟩,kb⟩
 have C:rW r=0:=E9
 rw[C]
 have A:=ae hok
 clear hok C
 have wS:=BG.new t
 have dF:=dX.alloc (.map #[] 0)
 have dz:=R.alloc (.map #[] 0)
 have Cf:=Y.al (.map #[] 0)
 have hgm:u+1<t.heap.size:=R.lt
 clear dX R
 go_wp2_with (with_reducible refine vI _ rfl (.tmp 17) (.const (.int .i64 1)) (.tmp 18) 282 rfl 3 24 underlying282 underlying3 t.heap.size _ rfl wS 1 rfl _ rfl rfl ?_)
 intro w4 dV M
 have T:K w w4:=Cf.trans (lC M af Cf.size)
 have hs4:=dF.grown M aU
 have dD:=dz.grown M aU
 clear wS M Cf dF dz
 go_wp2_with (with_reducible refine vI _ rfl (.tmp 17) (.const (.int .i64 2)) (.tmp 19) 282 rfl 3 24 underlying282 underlying3 t.heap.size _ rfl dV 2 rfl _ rfl rfl ?_)
 intro w5 cX L
 have Z:K w w5:=T.trans (lC L af T.size)
 have hs5:=hs4.grown L aU
 have fq:=dD.grown L aU
 clear dV L T hs4 dD
 go_wp2_with (with_reducible refine vI _ rfl (.tmp 17) (.const (.int .i64 3)) (.tmp 20) 282 rfl 3 24 underlying282 underlying3 t.heap.size _ rfl cX 3 rfl _ rfl rfl ?_)
 intro w6 eY E
 have Q:K w w6:=Z.trans (lC E af Z.size)
 have Mx:=hs5.grown E aU
 have kp:=fq.grown E aU
 clear cX E Z hs5 fq
 go_wp2_with (with_reducible refine vI _ rfl (.tmp 17) (.const (.int .i64 4)) (.tmp 21) 282 rfl 3 24 underlying282 underlying3 t.heap.size _ rfl eY 4 rfl _ rfl rfl ?_)
 intro w7 cU J
 have S:K w w7:=Q.trans (lC J af Q.size)
 have qC:=Mx.grown J aU
 have gN:=kp.grown J aU
 clear eY J Q Mx kp
 go_wp2_with (with_reducible refine vI _ rfl (.tmp 17) (.const (.int .i64 5)) (.tmp 22) 282 rfl 3 24 underlying282 underlying3 t.heap.size _ rfl cU 5 rfl _ rfl rfl ?_)
 intro i D G
 have My:K w i:=S.trans (lC G af S.size)
 have hs8:=qC.grown G aU
 have U:=gN.grown G aU
 clear cU G S qC gN
 have q0:i.cell? ⟨u+1,0,none⟩=some (.int .i64 r.kind):=U.cell 0
 have y:=y i
 have B:=ae (H.aa.onV My hs8 U)
 have kb:Below base w i:=My.mono H.aa.low
 clear hs8 U
 rcases auy A.aa with hk|hk|hk|hk|hk
 ·have hlk:(Instr.lookup 282 (.map (some t.heap.size)) (.int .i64 1) true).run prog i=.ok (.tuple #[Value.func (Fn.func 215) #[] #[Value.pointer (some ⟨u+1,0,none⟩),Value.pointer (some ⟨u,0,none⟩)],.bool true]) i :=
   tN underlying282 underlying3 y D 1
  have HQ:=ae (Ij (s:=s) A.aa (axP hk));rw[hk]at q0;have C2:=ae (asI i B.aa);clear hk;go_wp2_with fail
  refine C2.aa.mono ?_;rintro e N⟨rfl,j,hb⟩;have HS:=ae j;clear j;generalize wO s r=o at *;exact KT
 ·have hlk:(Instr.lookup 282 (.map (some t.heap.size)) (.int .i64 2) true).run prog i=.ok (.tuple #[Value.func (Fn.func 216) #[] #[Value.pointer (some ⟨u+1,0,none⟩),Value.pointer (some ⟨u,0,none⟩)],.bool true]) i :=
   tN underlying282 underlying3 y D 2
  have HQ:=ae (Ij (s:=s) A.aa (axQ hk));rw[hk]at q0;have C2:=ae (asM i B.aa);clear hk;go_wp2_with fail
  refine C2.aa.mono ?_;rintro e N⟨rfl,j,hb⟩;have HS:=ae j;clear j;generalize uD s r=o at *;exact KT
 ·have hlk:(Instr.lookup 282 (.map (some t.heap.size)) (.int .i64 3) true).run prog i=.ok (.tuple #[Value.func (Fn.func 219) #[] #[Value.pointer (some ⟨u+1,0,none⟩),Value.pointer (some ⟨u,0,none⟩)],.bool true]) i :=
   tN underlying282 underlying3 y D 3
  have HQ:=ae (Ij (s:=s) A.aa (axR hk));rw[hk]at q0;have C2:=ae (asL i B.aa);clear hk;go_wp2_with fail
  refine C2.aa.mono ?_;rintro e N⟨rfl,j,hb⟩;have HS:=ae j;clear j;generalize uE s r=o at *;exact KT
 ·have hlk:(Instr.lookup 282 (.map (some t.heap.size)) (.int .i64 4) true).run prog i=.ok (.tuple #[Value.func (Fn.func 220) #[] #[Value.pointer (some ⟨u,0,none⟩),Value.pointer (some ⟨u+1,0,none⟩)],.bool true]) i :=
   tN underlying282 underlying3 y D 4
  have HQ:=ae (Ij (s:=s) A.aa (axS hk));rw[hk]at q0;have C2:=ae (asK i B.aa);clear hk;go_wp2_with fail
  refine C2.aa.mono ?_;rintro e N⟨rfl,j,hb⟩;have HS:=ae j;clear j;generalize uH s r=o at *;exact KT
 ·have hlk:(Instr.lookup 282 (.map (some t.heap.size)) (.int .i64 5) true).run prog i=.ok (.tuple #[Value.func (Fn.func 221) #[] #[Value.pointer (some ⟨u,0,none⟩),Value.pointer (some ⟨u+1,0,none⟩)],.bool true]) i :=
   tN underlying282 underlying3 y D 5
  have HQ:=ae (Ij (s:=s) A.aa (axT hk));rw[hk]at q0;have C2:=ae (asJ i B.aa);clear hk;go_wp2_with fail
  refine C2.aa.mono ?_;rintro e N⟨rfl,j,hb⟩;have HS:=ae j;clear j;generalize wP s r=o at *;exact KT
section
variable {P:Program} {Q:Exit->Act->World->Prop}
def axU(P:Program)(h:Act)(C i:World->Prop)(F:(Nat->Bool)->(Nat->Value)->World->Prop)(φ:Nat->Value->World->Prop)(k:Nat)(op:Op)(ty:TypeId)(gd:Option (Nat×Bool))(al:List Nat)(rd:List (Nat×Nat)):Prop :=
 gd=none/\∀(L:Nat->Bool) (V:Nat->Value) (w:World),(∀j∈al,L j=true)->C w->i w->(∀j,L j=true->φ j (V j) w)->mm P (λv w'=>F (dw L k) (bj V k v) w') ((execOp (aw rd h V) (ay op ty)).run P w)
def axV(P:Program)(h:Act)(F:(Nat->Bool)->(Nat->Value)->World->Prop)(k:Nat)(op:Op)(ty:TypeId)(gd:Option (Nat×Bool))(al:List Nat)(rd:List (Nat×Nat)):Prop :=
 gd=none/\∀(L:Nat->Bool) (V:Nat->Value) (w:World),L k=false->(∀j∈al,L j=true)->F L V w->mm P (λv w'=>F (dw L k) (bj V k v) w') ((execOp (aw rd h V) (ay op ty)).run P w)
def Fv(P:Program)(h:Act)(C t i:World->Prop)(Le:World->World->Prop)(F:(Nat->Bool)->(Nat->Value)->World->Prop)(φ:Nat->Value->World->Prop)(z y:Nat)(j s:List Nat):Nat->List Oper->List (List Nat×List (Nat×Nat))->Prop
 | _,[],_=>True
 | _,_ :: _,[]=>False
 | k,o :: r,x :: xs=>(if k=y then axU P h C i F φ k o.op o.type o.guard x.1 x.2 else (if j.contains k=true then True else axV P h F k o.op o.type o.guard x.1 x.2)/\(if s.contains k=true then True else nZ P h C t i Le φ z k [o] [x]))/\Fv P h C t i Le F φ z y j s (k+1) r xs
def xF(C h i:World->Prop)(t:List (Value->World->Prop))(z y:Nat)(F:(Nat->Bool)->(Nat->Value)->World->Prop)(L:Nat->Bool)(V:Nat->Value)(w:World):Prop:=if L y=true then F L V w else DJ C h i t z L V w
theorem Fv.toP{ops:Array Oper}{Y:Act}{C J I:World->Prop}{Le:World->World->Prop}{F:(Nat->Bool)->(Nat->Value)->World->Prop}{t:List (Value->World->Prop)}{z y:Nat}{M N:List Nat}(s:List (List Nat×List (Nat×Nat)))(X:qP ops s=true)
 (hb:∀k∈M,lG s k s.length y=true) (ha:∀k∈N,lG s y s.length k=true) (hz:z∈M) (Jf:z≠y)
 (hg:∀W E,C W->Below W.heap.size W E->C E) (hg0:∀W E,J W->Below W.heap.size W E->J E) (hg1:∀W E,I W->Below W.heap.size W E->I E)
 (st:∀f∈t,∀v w w',f v w->Below w.heap.size w w'->f v w') (st2:∀j,j≠z->lG s z s.length j=false->∀v w w',tab t j v w->Le w w'->tab t j v w') :
 ∀(l:List Oper) (k:Nat) (H:List (List Nat×List (Nat×Nat))),(∀i,ops[k+i]?=l[i]?)->(∀i,s[k+i]?=H[i]?) ->
  Fv P Y C J I Le F (tab t) z y M N k l H->Fq P ops Y (xF C J I t z y F) k l H:=by
 intro l
 induction l with
 | nil=>intro k H _ _ _;exact trivial
 | cons o r ih =>
  intro k H ho hq h
  cases H with
  | nil=>exact False.elim h
  | cons x xs =>
   have Y7:s[k]?=some x:=hq 0;refine⟨?_,ih _ _ (λi=>afw) (λi=>afx) h.2⟩;have Z:∀ {L:Nat->Bool} {j:Nat},Lf ops L->(∀i∈x.1,L i=true)->lG s j s.length k=true->L j=true:=by
    intro L j G D B
    cases hn:s.length with
    | zero=>rw[hn]at B;cases B
    | succ n =>
     rw[hn]at B;unfold lG at B;rw[Y7]at B;simp only[Bool.or_eq_true,List.contains_iff_mem,List.any_eq_true]at B;rcases B with B|⟨i,hi,B⟩
     ·exact D j B
     ·exact Ie X G _ _ B (D i hi)
   intro L V w O G D A;by_cases U:k=y
   ·subst U;have u:=h.1;rw[if_pos rfl]at u;obtain⟨S,u⟩:=u;unfold xF at A;rw[O]at A;simp only[Bool.false_eq_true,if_false]at A;obtain⟨hc,hd,hp⟩:=A;have Mv:L z=true:=Z G D (hb z hz);rw[if_pos Mv]at hd;have u:=u L V w D hc hd hp;rw[S,if_pos (show aL V none=true from rfl)];have hkk:dw L k k=true:=by simp[dw]
    refine mm.imp ?_ u;intro v w' h9;unfold xF;rw[if_pos hkk];exact h9
   ·have u:=h.1;rw[if_neg U]at u;obtain⟨T,Q⟩:=u;cases ym:L y with
    | true =>
     have wJ:M.contains k=false:=by
      cases hc:M.contains k with
      | false=>rfl
      | true => have:=Ie X G _ _ (hb k KU) ym;rw[O]at this;cases this
     rw[wJ]at T;simp only[Bool.false_eq_true,if_false]at T;obtain⟨S,u⟩:=T;unfold xF at A;rw[if_pos ym]at A;have u:=u L V w O D A;rw[S,if_pos (show aL V none=true from rfl)];have R:dw L k y=true:=by simp[dw,ym]
     refine mm.imp ?_ u;intro v w' h9;unfold xF;rw[if_pos R];exact h9
    | false =>
     have hna:N.contains k=false:=by
      cases hc:N.contains k with
      | false=>rfl
      | true => have:=Z G D (ha k KU);rw[ym]at this;cases this
     rw[hna]at Q;simp only[Bool.false_eq_true,if_false]at Q;have e:=(nZ.X4 s X hg hg0 hg1 st st2 [o] k [x] Q).1;unfold xF at A;rw[ym]at A;simp only[Bool.false_eq_true,if_false]at A;have e:=e L V w O G D A;have R:dw L k y=false:=by simp[dw,Ne.symm U,ym]
     have key:∀v w',DJ C J I t z (dw L k) (bj V k v) w'->xF C J I t z y F (dw L k) (bj V k v) w':=by intro v w' h9;unfold xF;rw[R];simpa using h9
     exact afy
theorem aaO{id:Nat}{ops:Array Oper}{A:Act}{w:World}(z y:Nat)(D E:List Nat)(C u B:World->Prop)(Le:World->World->Prop)(F:(Nat->Bool)->(Nat->Value)->World->Prop)(l:List (Value->World->Prop))(s:List (List Nat×List (Nat×Nat)))
 (n:Nat) (hn:A.tmps.size=n) (hm:P.follows .mixedOrders=true) (L:o8 ops n=true) (G:qP ops s=true) (O:D.contains z=true) (S:z≠y) (N:y<ops.size)
 (T:D.all (λk=>lG s k s.length y)=true) (U:E.all (λk=>lG s y s.length k)=true)
 (hg:∀W t,C W->Below W.heap.size W t->C t) (H:∀W t,u W->Below W.heap.size W t->u t) (J:∀W t,B W->Below W.heap.size W t->B t) (I:C w.drew) (hD:u w.drew)
 (st:∀f∈l,∀v w w',f v w->Below w.heap.size w w'->f v w') (st2:∀x∈l.zipIdx,(x.2==z||lG s z s.length x.2)=true∨∀v w w',x.1 v w->Le w w'->x.1 v w')
 (M:Fv P A C u B Le F (tab l) z y D E 0 ops.toList s)
 (fin:∀(V:Nat->Value) (w:World),F (λj=>decide (j<ops.size)) V w->Q .normal (bF V ops.toList 0 A) w) :
 (Code.region id ops true).wp P Q A w:=by
 have R:∀j,j≠z->lG s z s.length j=false->∀v w w',tab l j v w->Le w w'->tab l j v w':=by exact VA
 refine EO (xF C u B l z y F) n hn hm L ?_ (Oo s G (Fv.toP s G (λk hk=>List.all_eq_true.1 T k hk) (λk hk=>List.all_eq_true.1 U k hk) (by simpa using O) S hg H J st R _ _ _ (λi=>aj) (λi=>aj) M)) λV w h=>fin V w ?_
 ·unfold xF;simp only[Bool.false_eq_true,if_false];exact⟨I,O8,λ_ h=>vR⟩
 ·unfold xF at h;simpa [N]using h
end
