/-
  The overlay (layer 21) and its net (layer 14), in plain Lean. Conditions: none.
-/
import Derived.Test.YtfndfpdhlbmboaaGreatMq1b
import Derived.Deep.CutBlock
import Derived.Test.YtfndfpdhlbmboaaGreatMqz
set_option maxRecDepth 100000
set_option maxHeartbeats 16000000
set_option linter.all false
namespace Go.Proofs.YtfndfpdhlbmboaaGreat
open Go Go.RowKit _root_.Go.Proofs.Tryz
def D4(O:bz)(c:Int)(a:aT):Int×Int:=let r:=tF O c a (0:Int) λB=>(B,FU B a,0);r.2
def lT(O:bz)(c:Int):bz×List (List cM)×Int :=
 if ky O c then (match cZ O (nS O c)with
  | none=>(O,[],210)
  | some B =>
   let r:=mE B c ((O.cur[c.toNat]?).getD 0)
   if r.2.2=0 then ({ O with cur:=O.cur.set c.toNat r.2.1,got:=if r.1=[]then O.got else O.got.modify c.toNat λg=>g++[r.1] },r.1,0)else (O,[],r.2.2))
 else (O,[],1)
def oJ(O:bz)(n:Int):bz×Int :=
 if ko O n then (match cZ O n with
  | none=>(O,210)
  | some B=>({ rF O n (gA B)with cD:=(ua (gA B)).foldl (λL m=>ud L (n,m.1) m.2) O.cD },0))
 else (O,1)
def mV(O:bz)(a b:Int):bz×Int:=match lM O.cD (a,b)with
 | none=>(O,140)
 | some []=>(O,141)
 | some (m :: l) =>
  let P:={ O with cD:=iE O.cD (a,b) l }
  match cZ O b with
  | none=>(P,210)
  | some B=>(rF P b (gX B a m).1,(gX B a m).2)
def nT(O:bz)(a b:Int):Nat:=((lM O.cD (a,b)).getD []).length
def Cj(a b:Int):Nat->bz->bz
 | 0,O=>O
 | k+1,O=>Cj a b k (mV O a b).1
def vF(O:bz)(n:Nat):bz:=if (oJ O n).2=0 then (List.range O.par.length).foldl (λO (t:Nat)=>if t=n then O else Cj n t (nT O n t) O) (oJ O n).1 else O
def sP(O:bz):bz:=((List.range O.par.length).reverse++List.range O.par.length).foldl vF O
def my(O:bz)(n:Int):dy:=if ko O n then (match cZ O n with|some B=>B.st|none=>((O.eC[n.toNat]?).map λx=>Ff x.dk).getD cV)else cV
def Eo(O:bz)(n:Int):Nat:=(my O n).prom.length+(match cZ O n with|some B=>(B.aA.filter (·.asked)).length+B.waits.length|none=>0)
theorem ash{l a b}(h:dG l a=false)(hb:b∈l):b≠a:=by
 grind [dG]
theorem axv{s t r}(hk:r.kind≠1)(e:dW s r=some t)(u:∀a∈s.ab,bU s.list a=false):s.list <+: t.list/\s.ab <+: t.ab/\t.life=s.life/\(∀a∈t.ab,bU t.list a=false)/\(t.prom.length<=s.prom.length+(if r.kind=3 then 1 else 0)):=by
 have B:=ah2 hk e;unfold dW at e;rw[if_neg hk]at e;split at e
 ·rename_i j;unfold xJ at e;split at e
  ·cases e
  split at e
  ·cases e
  split at e
  ·cases e
  rename_i A C;injection e with e;subst e;refine⟨List.prefix_append _ _,List.prefix_refl _,rfl,λa y=>?_,?_⟩
  ·grind [bU,Bool.or_eq_false_iff,ash]
  ·grind [dW,bU,au,iY]
 split at e
 ·grind [dW,bU,xK]
 split at e
 ·grind [dW,bU,xL,iG,iY]
 ·grind [dW,bU,zw,iG,iY]
theorem adZ{B r}(hk:r.kind≠1)(A:∀a∈B.st.ab,bU B.st.list a=false):fU B (dB B r).1/\(∀a∈(dB B r).1.st.ab,bU (dB B r).1.st.list a=false)/\(dB B r).1.st.prom.length<=B.st.prom.length+(if r.kind=3 then 1 else 0):=by
 unfold dB;split
 ·split
  ·grind [fU.rf]
  ·rename_i t D;obtain⟨j,y,C,E,u⟩:=axv hk D A;exact⟨⟨j,y,C⟩,E,u⟩
 ·grind [fU.rf]
theorem PG{B r}(hk:r.kind≠1)(j:r.kind≠3)(h:iw B):fU B (dB B r).1/\iw (dB B r).1:=by obtain⟨a,b,c⟩:=adZ hk h.ab;rw[if_neg j]at c;exact⟨a,⟨b,bo c h.prom⟩⟩
theorem aeD{B}(h:iw B) x:fU B (mD B x).1/\iw (mD B x).1:=PG AE AE h
theorem at4{B}(h:iw B) a:fU B (nN B a).1/\iw (nN B a).1:=by
 have:=PG (B:=B) (r:=ju 4 a) DY DY h;unfold nN;split
 ·exact⟨⟨this.1.list,this.1.ab,this.1.life⟩,⟨this.2.ab,this.2.prom⟩⟩
 ·grind [fU.rf]
theorem ade{B}(h:iw B) a:fU B (jq B a)/\iw (jq B a):=by
 grind [jq,PG,ju,fU.rf]
theorem Vu{α:Type}{f}(t:∀B x,iw B->fU B (f B x)/\iw (f B x)):∀(l:List α) (B:bf),iw B->fU B (l.foldl f B)/\iw (l.foldl f B):=by
 intro l
 induction l with
 | nil=>intro B h;exact⟨fU.rf _,h⟩
 | cons x l j => intro B h;obtain⟨a,b⟩:=t B x h;obtain⟨c,d⟩:=j (f B x) b;exact⟨a.tr c,d⟩
theorem at5{kids p x}(h:iw p.1):fU p.1 (kH kids p x).1/\iw (kH kids p x).1:=by
 grind [kH,aeD,fU.rf,at4]
theorem at6{kids}:∀(l:List aL) (p:bf×List aL),iw p.1->fU p.1 (l.foldl (kH kids) p).1/\iw (l.foldl (kH kids) p).1:=by
 intro l
 induction l with
 | nil=>intro p h;exact⟨fU.rf _,h⟩
 | cons x l j => intro p h;obtain⟨a,b⟩:=at5 (kids:=kids) (x:=x) h;obtain⟨c,d⟩:=j (kH kids p x) b;exact⟨a.tr c,d⟩
theorem aeE{B}(h:iw B):fU B (gA B)/\iw (gA B):=by
 unfold gA;split
 ·obtain⟨a,b⟩:=Vu (f:=λb x=>(mD b x).1) (λB x h=>aeD h x) (oH B.st B.waits (lu B)).2 B h;obtain⟨c,d⟩:=at6 (kids:=dA B) (oH B.st B.waits (lu B)).1 (yK B,[]) b;exact⟨⟨(a.tr c).list,(a.tr c).ab,(a.tr c).life⟩,⟨d.ab,d.prom⟩⟩
 ·grind [fU.rf]
theorem at7:∀(l:List aL) (B:bf) (n:Nat),iw B->fU B (lS B n l)/\iw (lS B n l):=by
 intro l
 induction l with
 | nil=>intro B n h;exact⟨fU.rf _,h⟩
 | cons x l j =>
  intro B n h;unfold lS;split
  ·split
   ·obtain⟨a,b⟩:=PG (B:=B) (r:=mF n x) AE AE h;obtain⟨c,d⟩:=j (dB B (mF n x)).1 ((n+1)%18446744073709551616) b;exact⟨a.tr c,d⟩
   ·grind [fU.rf]
  ·grind
theorem at8{B}(h:iw B) a:fU B (ni B a)/\iw (ni B a):=by
 unfold ni;split
 ·grind [fU.rf]
 ·have j:iw { B with told:=B.told++[a],aA:=fE B.aA a }:=⟨h.ab,h.prom⟩;obtain⟨b,c⟩:=ade j a;exact⟨⟨b.list,b.ab,b.life⟩,c⟩
theorem apC{s}(t:s.prom.length<=6):∀(l:List aL) (p:List aL×List aT),s.prom.length+p.1.length<=6->s.prom.length+(l.foldl (jB s) p).1.length<=6:=by
 intro l
 induction l with
 | nil=>intro p h;exact h
 | cons x l j =>
  grind [jB]
theorem aua:∀(l:List aL) (p:bf×List aT),(∀a∈p.1.st.ab,bU p.1.st.list a=false)->p.1.st.prom.length+l.length<=6->fU p.1 (l.foldl iX p).1/\iw (l.foldl iX p).1:=by
 intro l
 induction l with
 | nil=>intro p j t;exact⟨fU.rf _,⟨j,aB⟩⟩
 | cons x l y =>
  intro p j t;simp only[eQ]at t;have hn:=adZ (B:=p.1) (r:=ui x) D3 j;have u:fU p.1 (iX p x).1/\(∀a∈(iX p x).1.st.ab,bU (iX p x).1.st.list a=false)/\(iX p x).1.st.prom.length<=p.1.st.prom.length+1:=by
   unfold iX;split
   ·grind
   ·simp_all [fU.rf,Nat.le_succ]
  obtain⟨a,b⟩:=y (iX p x) u.2.1 af;exact⟨u.1.tr a,b⟩
theorem avX{B}(h:iw B) l:fU B (sR B l)/\iw (sR B l):=by have j:=apC h.prom (lY B l) ([],[]) (by simpa using h.prom);obtain⟨a,b⟩:=aua (nJ B.st (lY B l)).1 (B,sY B l++(nJ B.st (lY B l)).2) h.ab j;unfold sR rq;exact⟨⟨a.list,a.ab,a.life⟩,⟨b.ab,b.prom⟩⟩
theorem avY{B}(h:iw B) m:fU B (qh B m)/\iw (qh B m):=by obtain⟨E,A⟩:=at7 m.entries B m.got h;obtain⟨t,D⟩:=Vu (f:=ni) (λB x h=>at8 h x) m.dF _ A;obtain⟨y,u⟩:=Vu (f:=jq) (λB x h=>ade h x) m.ends _ D;obtain⟨C,j⟩:=avX u m.eD;exact⟨((E.tr t).tr y).tr C,j⟩
theorem adf{B}(h:iw B) j b:fU B (gX B j b).1/\iw (gX B j b).1:=by
 unfold gX;split
 ·split
  ·grind [fU.rf]
  ·rename_i m _;split
   ·have t:iw { B with bI:=mw B.bI j m }:=⟨h.ab,h.prom⟩;obtain⟨a,c⟩:=aeE t;exact⟨⟨a.list,a.ab,a.life⟩,c⟩
   ·grind [avY,fU.rf]
 ·grind [fU.rf]
theorem gQ.erase{l}(h:gQ l) k:gQ (l.eraseIdx k):=λt j=>h t (List.mem_of_mem_eraseIdx j)
theorem gQ.settle{l}(h:gQ l) a:gQ (fE l a):=by
 unfold fE;split
 ·exact h
 ·exact h.erase _
theorem gQ.FX{l}(h:gQ l) a e:gQ (ie l a e).1:=by
 unfold ie;split
 ·exact h
 ·split
  ·exact h
  ·rename_i k t j;repeat' split
   all_goals first|exact h|skip
   refine h.set _ _ ?_;cases hk:t.asked
   ·exact .inr (h t (List.mem_of_getElem? j) hk)
   ·simp
theorem gQ.F5{l}(h:gQ l) a:gQ (iH l a).1:=by
 unfold iH;split
 ·exact h
 ·split
  ·exact h
  ·exact h.set _ _ (.inl rfl)
theorem gQ.abort{l}(h:gQ l) a:gQ (iW l a).1:=by
 unfold iW;split
 ·exact h.settle a
 ·exact h
theorem fF.FX{B}(j:fF B){a e}(u:∀x∈e,lU x)(t:dJ a):fF (dR B (ie B.aA a e)).1 :=
 j.keep (Vh (l:=B.aA) j.tx ⟨2,a,0,e,dC⟩ t po u FF j.sL) (j.sL.FX a e)
theorem fF.F5{B}(j:fF B){a}(t:dJ a):fF (dR B (iH B.aA a)).1 :=
 j.keep (Vh (l:=B.aA) j.tx ⟨3,a,0,[],dC⟩ t po aj FF j.sL) (j.sL.F5 a)
theorem fF.abort{B}(j:fF B){a}(t:dJ a):fF (dR B (iW B.aA a)).1 :=
 j.keep (Vh (l:=B.aA) j.tx ⟨4,a,0,[],dC⟩ t po aj FF j.sL) (j.sL.abort a)
theorem U3{B}(h:gQ B.aA) r:gQ (dB B r).1.aA:=by
 unfold dB;split
 ·split
  ·exact h
  ·show gQ (if r.kind=2 then fE B.aA (au r.e)else B.aA);split
   ·exact h.settle _
   ·exact h
 ·exact h
theorem asi{B}(h:gQ B.aA) a:gQ (nN B a).1.aA:=by
 unfold nN;split
 ·exact (U3 h _).settle _
 ·exact h
theorem aub{l:List aL}:∀ {B:bf},gQ B.aA->gQ (l.foldl (λb x=>(mD b x).1) B).aA:=by
 induction l with
 | nil=>intro B h;exact h
 | cons x l j=>intro B h;exact j (U3 h _)
theorem auc{kids}{l:List aL}:∀ {p:bf×List aL},gQ p.1.aA->gQ (l.foldl (kH kids) p).1.aA:=by
 induction l with
 | nil=>intro p h;exact h
 | cons x l j =>
  intro p h
  refine j ?_
  unfold kH
  repeat' split
  all_goals first|exact h|exact U3 h _|exact asi h _
theorem fF.work{B}(j:fF B):fF (gA B):=by
 refine⟨KR j.tobC,?_⟩;unfold gA;split
 ·exact auc (p:=(yK B,[])) (aub j.sL)
 ·exact j.sL
section
variable {P:bf->Prop}
theorem U4(j:∀B r,P B->P (dB B r).1):∀ {l:List aL} {B:bf} {n:Nat},P B->P (lS B n l)
 | [],B,n,h=>h
 | x :: l,B,n,h=>by
  unfold lS;split
  ·split
   ·exact U4 j (j _ _ h)
   ·exact h
  ·exact U4 j h
theorem acG(j:∀B r,P B->P (dB B r).1){B}(h:P B) a:P (jq B a):=by
 grind [dB,jq]
theorem U6{α:Type}{f:bf->α->bf}(j:∀B a,P B->P (f B a)):∀ {l:List α} {B:bf},P B->P (l.foldl f B)
 | [],_,h=>h
 | a :: l,B,h=>U6 j (l:=l) (j B a h)
theorem ad0(j:∀B r,P B->P (dB B r).1):∀ {l:List aL} {p:bf×List aT},P p.1->P (l.foldl iX p).1
 | [],_,h=>h
 | x :: l,p,h=>by
  refine ad0 j (l:=l) ?_;unfold iX;split
  ·exact j _ _ h
  ·exact h
theorem ad1(j:∀B r,P B->P (dB B r).1)(u:∀B a,P B->P { B with told:=B.told++[a],aA:=fE B.aA a })(t:∀B l,P B->P { B with refused:=l }){B}(h:P B) m:P (qh B m):=by
 unfold qh sR;refine t _ _ ?_;unfold rq;refine ad0 j ?_;refine U6 (P:=P) (f:=jq) (λB a h=>acG j h a) ?_;refine U6 (P:=P) (f:=ni) (λB a h=>?_) (U4 j h);unfold ni;split
 ·exact h
 ·simp_all [acG]
end
def Q4(c:Nat)(B:bf):Prop:=B.calls=c/\gQ B.aA
theorem apE{c} B r(h:Q4 c B):Q4 c (dB B r).1:=by
 unfold dB;split
 ·split
  ·exact h
  ·refine⟨h.1,?_⟩;show gQ (if r.kind=2 then fE B.aA (au r.e)else B.aA);split
   ·exact h.2.settle _
   ·exact h.2
 ·exact h
theorem apF{c B}(h:Q4 c B) m:Q4 c (qh B m) :=
 ad1 apE (λ_ _ h=>⟨h.1,h.2.settle _⟩) (λ_ _ h=>h) h m
theorem UK{B}(h:kO B)(j:fF B) t b(D:B.told.length+16<=1000000):fF (gX B t b).1/\(gX B t b).1.calls=B.calls:=by
 have C:=(acB h j.tobC t b D).2.1;suffices u:gQ (gX B t b).1.aA/\(gX B t b).1.calls=B.calls from ⟨⟨C,u.1⟩,u.2⟩
 unfold gX;split
 ·split
  ·exact⟨j.sL,rfl⟩
  ·rename_i m hm;have y:=(Pq hm).2;have hfit:=PD hm;split
   ·have g:=Pv (k:=t) j.tobC y hfit;have A:fF { B with bI:=mw B.bI t m }:=⟨g,j.sL⟩;exact⟨A.work.sL,(KS g).calls⟩
   ·split
    ·have:=apF (c:=B.calls) ⟨rfl,j.sL⟩ m;exact⟨this.2,this.1⟩
    ·exact⟨j.sL,rfl⟩
 ·exact⟨j.sL,rfl⟩
section
variable {B:bf} {n:Nat}
theorem j0.work(h:j0 B n)(j:bC B):j0 (gA B) (n+1):=by have t:=KS j;have:=h.told;have:=h.calls;exact⟨(aeE h.inv).2,Pt j h.fit,by rw[t.told];omega,by rw[t.calls];omega⟩
theorem j0.handle(h:j0 B n)(t:fF B) j b(hn:n<=50000):j0 (gX B j b).1 (n+1):=by have:=h.told;have:=h.calls;have u:=acB h.fit t.tobC j b af;have:=UK h.fit t j b af;exact⟨(adf h.inv j b).2,u.1,af,af⟩
end
theorem bA.report{M p B w w'}(h:bA M p B w){k m v}(hm:dM encI w' p.gr (r7 p.kr k v))(hg:w.grownBy w' (some p.gr))(hn:(B.bI.map (·.1)).Nodup)(A:Fx M (λW=>lI m v W) w):bA M { p with kr:=r7 p.kr k v } { B with bI:=mw B.bI k m } w':=by
 obtain⟨D,F,G,C,E⟩:=h.apart;have u:ag (λk=>k=p.gr) w w':=ag.eP hg λk e=>aB
 have t:=u.more λk hk=>h.sub k (hk ▸ .inr (.inl rfl))
 refine⟨h.blk.aX u D,h.lg.aX u λk hk e=>C (e▸hk),hm,h.wK.aX u λe=>h.ne e.symm,λW y=>?_,h.sub,λk hk=>bw (h.low k hk) u.size,h.ne⟩;have j:=h.bF W (t.tr y);exact⟨j.par,j.ai,j.list,j.prom,j.ab,j.aA,j.fB,j.waits,j.bI.put hn (A W (t.tr y))⟩
theorem asj{M p B w}(h:bA M p B w) k{m v}(hn:(B.bI.map (·.1)).Nodup)(u:Fx M (λW=>lI m v W) w) :
 ∃w',(Instr.mapUpdate 159 (.map (some p.gr)) (.int .i64 k) v).run prog w=.ok () w'/\bA M { p with kr:=r7 p.kr k v } { B with bI:=mw B.bI k m } w'/\ag (λk=>k=p.gr) w w':=by
 obtain⟨w',t,y,j⟩:=FC (Es (P:=prog) (kt:=3) underlying3) underlying159 h.rep k v
 exact⟨w',t,h.report y j hn u,ag.eP j λk e=>aB⟩
section
variable {P:Program} {Q:Exit->Act->World->Prop}
theorem I0.aAD{ops G C D A Le t z} E(T:tQ ops E=true)
 (hg:∀W W',C W->Below W.heap.size W W'->C W') (hg0:∀W W',D W->Below W.heap.size W W'->D W') (hg1:∀W W',A W->Below W.heap.size W W'->A W')
 (st:∀f∈t,∀v w w',f v w->Below w.heap.size w w'->f v w') (st2:∀j,j≠z->qA E z E.length j=false->∀v w w',tab t j v w->Le w w'->tab t j v w') :
 ∀(l:List Oper) (k:Nat) (F:List (List Nat×List (Nat×Nat))),I0 P G C D A Le (tab t) z k l F->L8 P ops G (Ma C D A t z) k l F:=by
 intro l
 induction l with
 | nil=>intro k F _;exact trivial
 | cons o r ih =>
  intro k F h
  cases F with
  | nil=>exact False.elim h
  | cons x xs =>
   refine⟨?_,ih _ _ h.2⟩;intro L V w N X S ⟨M,J,hp⟩;by_cases H:k=z
   ·subst H;have u:=h.1;rw[if_pos rfl]at u;obtain⟨Y,u⟩:=u;rw[N]at J;simp only[Bool.false_eq_true,if_false]at J;have u:=u V w M J λj y=>hp j (S j y)
    have next:∀v w',tab t k v w'->C w'->A w'->Le w w'->Ma C D A t k (upd L k) (ba V k v) w':=by
     intro v w' I R U hb;have:upd L k k=true:=by simp[upd]
     refine⟨R,aB,λj y=>?_⟩;unfold ba;by_cases B:j=k
     ·grind
     ·rw[if_neg B];have Q:=(yw y).resolve_left B;refine st2 j B ?_ _ _ _ (hp j Q) hb;cases hf:qA E k E.length j with
      | false=>rfl
      | true=>rw[Ik T X _ _ hf Q]at N;cases N
    rw[Y,if_pos (show bO V none=true from rfl)];generalize (execOp (aF x.2 G V) (aG o.op o.type)).run P w=q at *;cases q with
    | ok n w' =>
     cases n <;> simp only[Rg]at u <;> simp only[jO]
     case value v=>exact next _ _ u.1 u.2.1 u.2.2.1 u.2.2.2
     case skip=>exact next _ _ u.1 u.2.1 u.2.2.1 u.2.2.2
     case enter f args =>
      apply bN u
      rintro v Z⟨I,R,U,hb⟩
      grind
    | halt x w'=>simp only[Rg]at u
   ·have u:=h.1;rw[if_neg H]at u;have u:=u V w M λj y=>hp j (S j y)
    have next:∀v w',tab t k v w'->Below w.heap.size w w'->Ma C D A t z (upd L k) (ba V k v) w':=by
     intro v w' I hb;have:upd L k z=L z:=by simp[upd,Ne.symm H]
     refine⟨hg _ _ M hb,?_,λj y=>?_⟩
     ·grind
     ·unfold ba;by_cases B:j=k
      ·grind
      ·rw[if_neg B];exact UA (Le:=λw w'=>Below w.heap.size w w') st _ _ _ _ (hp j ((yw y).resolve_left B)) hb
    by_cases O:bO V o.guard=true
    ·rw[if_pos O]at u⊢;generalize (execOp (aF x.2 G V) (aG o.op o.type)).run P w=q at *;cases q with
     | ok n w' =>
      cases n <;> simp only[cU]at u <;> simp only[jO]
      case value v=>exact next _ _ u.1 u.2
      case skip=>exact next _ _ u.1 u.2
      case enter f args =>
       apply bN u
       rintro v Z⟨I,hb⟩
       grind
     | halt x w'=>simp only[cU]at u
    ·rw[if_neg O]at u⊢;exact next _ _ u (cP _ _)
end
section
variable {P:Program} {Q:Exit->Act->World->Prop}
end
section
variable {P:Program} {Q:Exit->Act->World->Prop}
def azj(P:Program)(u:Act)(C t:World->Prop)(F:(Nat->Bool)->(Nat->Value)->World->Prop)(φ:Nat->Value->World->Prop)(k:Nat)(op:Op)(ty:TypeId)(gd:Option (Nat×Bool))(al:List Nat)(rd:List (Nat×Nat)):Prop :=
 gd=none/\∀(L:Nat->Bool) (V:Nat->Value) (w:World),(∀j∈al,L j=true)->C w->t w->(∀j,L j=true->φ j (V j) w)->jO P (λv w'=>F (upd L k) (ba V k v) w') ((execOp (aF rd u V) (aG op ty)).run P w)
def azk(P:Program)(t:Act)(F:(Nat->Bool)->(Nat->Value)->World->Prop)(k:Nat)(op:Op)(ty:TypeId)(gd:Option (Nat×Bool))(al:List Nat)(rd:List (Nat×Nat)):Prop :=
 gd=none/\∀(L:Nat->Bool) (V:Nat->Value) (w:World),L k=false->(∀j∈al,L j=true)->F L V w->jO P (λv w'=>F (upd L k) (ba V k v) w') ((execOp (aF rd t V) (aG op ty)).run P w)
def I2(P:Program)(j:Act)(C A t:World->Prop)(Le:World->World->Prop)(F:(Nat->Bool)->(Nat->Value)->World->Prop)(φ:Nat->Value->World->Prop)(z y:Nat)(B u:List Nat):Nat->List Oper->List (List Nat×List (Nat×Nat))->Prop
 | _,[],_=>True
 | _,_ :: _,[]=>False
 | k,o :: r,x :: xs=>(if k=y then azj P j C t F φ k o.op o.type o.guard x.1 x.2 else (if B.contains k=true then True else azk P j F k o.op o.type o.guard x.1 x.2)/\(if u.contains k=true then True else I0 P j C A t Le φ z k [o] [x]))/\I2 P j C A t Le F φ z y B u (k+1) r xs
def yL(C j u:World->Prop)(t:List (Value->World->Prop))(z y:Nat)(F:(Nat->Bool)->(Nat->Value)->World->Prop)(L:Nat->Bool)(V:Nat->Value)(w:World):Prop:=if L y=true then F L V w else Ma C j u t z L V w
theorem I2.toP{ops Y C H E Le F t z y J O} u(Z:tQ ops u=true)
 (hb:∀k∈J,qA u k u.length y=true) (ha:∀k∈O,qA u y u.length k=true) (hz:z∈J) (hzy:z≠y)
 (hg:∀W W',C W->Below W.heap.size W W'->C W') (hg0:∀W W',H W->Below W.heap.size W W'->H W') (hg1:∀W W',E W->Below W.heap.size W W'->E W')
 (st:∀f∈t,∀v w w',f v w->Below w.heap.size w w'->f v w') (st2:∀j,j≠z->qA u z u.length j=false->∀v w w',tab t j v w->Le w w'->tab t j v w') :
 ∀(l:List Oper) (k:Nat) (G:List (List Nat×List (Nat×Nat))),(∀i,ops[k+i]?=l[i]?)->(∀i,u[k+i]?=G[i]?) ->
  I2 P Y C H E Le F (tab t) z y J O k l G->L8 P ops Y (yL C H E t z y F) k l G:=by
 intro l
 induction l with
 | nil=>intro k G _ _ _;exact trivial
 | cons o r ih =>
  intro k G ho hq h
  cases G with
  | nil=>exact False.elim h
  | cons x xs =>
   have hxk:u[k]?=some x:=hq 0;refine⟨?_,ih _ _ (λi=>by have:=ho (i+1);simpa [Nat.add_assoc,Nat.add_comm 1 i]using this) (λi=>by have:=hq (i+1);simpa [Nat.add_assoc,Nat.add_comm 1 i]using this) h.2⟩;have before:∀ {L:Nat->Bool} {j:Nat},Closed ops L->(∀i∈x.1,L i=true)->qA u j u.length k=true->L j=true:=by
    intro L j M I D
    cases hn:u.length with
    | zero=>rw[hn]at D;cases D
    | succ n =>
     rw[hn]at D;unfold qA at D;rw[hxk]at D;simp only[Bool.or_eq_true,List.contains_iff_mem,List.any_eq_true]at D;rcases D with D|⟨i,hi,D⟩
     ·grind
     ·grind [Ik]
   intro L V w N M I B;by_cases R:k=y
   ·subst R;have A:=h.1;rw[if_pos rfl]at A;obtain⟨T,A⟩:=A;unfold yL at B;rw[N]at B;simp only[Bool.false_eq_true,if_false]at B;obtain⟨hc,hd,hp⟩:=B;have hLz:=before M I (hb z hz);rw[if_pos hLz]at hd;have A:=A L V w I hc hd hp;rw[T,if_pos (show bO V none=true from rfl)];have hkk:upd L k k=true:=by simp[upd]
    refine jO.imp ?_ A;intro v w' h9;unfold yL;rw[if_pos hkk];exact h9
   ·have A:=h.1;rw[if_neg R]at A;obtain⟨S,Q⟩:=A;cases Kl:L y with
    | true =>
     have s7:J.contains k=false:=by
      cases hc:J.contains k with
      | false=>rfl
      | true => have:=Ik Z M _ _ (hb k DX) Kl;rw[N]at this;cases this
     rw[s7]at S;simp only[Bool.false_eq_true,if_false]at S;obtain⟨T,A⟩:=S;unfold yL at B;rw[if_pos Kl]at B;have A:=A L V w N I B;rw[T,if_pos (show bO V none=true from rfl)];have U:upd L k y=true:=by simp[upd,Kl]
     refine jO.imp ?_ A;intro v w' h9;unfold yL;rw[if_pos U];exact h9
    | false =>
     have hna:O.contains k=false:=by
      cases hc:O.contains k with
      | false=>rfl
      | true => have:=before M I (ha k DX);rw[Kl]at this;cases this
     rw[hna]at Q;simp only[Bool.false_eq_true,if_false]at Q;have e:=(I0.aAD u Z hg hg0 hg1 st st2 [o] k [x] Q).1;unfold yL at B;rw[Kl]at B;simp only[Bool.false_eq_true,if_false]at B;have e:=e L V w N M I B;have U:upd L k y=false:=by simp[upd,Ne.symm R,Kl]
     have key:∀v w',Ma C H E t z (upd L k) (ba V k v) w'->yL C H E t z y F (upd L k) (ba V k v) w':=by intro v w' h9;unfold yL;rw[U];simpa using h9
     by_cases X:bO V o.guard=true
     ·rw[if_pos X]at e⊢;exact jO.imp key e
     ·rw[if_neg X]at e⊢;exact key _ _ e
theorem an5{id ops A w} z y D I C u B Le F l t
 n (hn:A.tmps.size=n) (hm:P.follows .mixedOrders=true) (T:rT ops n=true) (H:tQ ops t=true) (L:D.contains z=true) (J:z≠y) (O:y<ops.size)
 (M:D.all (λk=>qA t k t.length y)=true) (Y:I.all (λk=>qA t y t.length k)=true)
 (hg:∀W W',C W->Below W.heap.size W W'->C W') (X:∀W W',u W->Below W.heap.size W W'->u W') (N:∀W W',B W->Below W.heap.size W W'->B W') (U:C w.drew) (hD:u w.drew)
 (st:∀f∈l,∀v w w',f v w->Below w.heap.size w w'->f v w') (st2:∀x∈l.zipIdx,(x.2==z||qA t z t.length x.2)=true∨∀v w w',x.1 v w->Le w w'->x.1 v w')
 (S:I2 P A C u B Le F (tab l) z y D I 0 ops.toList t)
 (fin:∀(V:Nat->Value) (w:World),F (λj=>decide (j<ops.size)) V w->Q .normal (fT V ops.toList 0 A) w) :
 (Code.region id ops true).wp P Q A w:=by
 have R:∀j,j≠z->qA t z t.length j=false->∀v w w',tab l j v w->Le w w'->tab l j v w':=by
  intro j Z hf v w w' G hm
  unfold tab at *
  cases hj:l[j]? with
  | none=>simp[List.getD_eq_getElem?_getD,hj]
  | some f =>
   simp only[List.getD_eq_getElem?_getD,hj,Option.getD_some]at G⊢;rcases st2 (f,j) (List.mem_zipIdx_iff_getElem?.2 hj)with E|E
   ·grind
   ·exact E v w w' G hm
 refine Uc (yL C u B l z y F) n hn hm T ?_ (asy t H (I2.toP t H (λk hk=>List.all_eq_true.1 M k hk) (λk hk=>List.all_eq_true.1 Y k hk) (by simpa using L) J hg X N st R _ _ _ (λi=>aj) (λi=>aj) S)) λV w h=>fin V w ?_
 ·unfold yL;simp only[Bool.false_eq_true,if_false];exact⟨U,fk,λ_ h=>yz⟩
 ·unfold yL at h;simpa [O]using h
end
section
variable {gw g:Nat} {n:Int} {l l':List UInt8} {wr bd wr' Km:Bool} {W W':World} {X:Nat->Prop}
theorem ag.went(H:nU g l' wr' W W')(j:X g):ag X W W':=ag.eP H.2 (by rintro k e;cases e;exact j)
theorem RW.went(h:RW gw g n l wr bd W)(H:nU g l' wr' W W'):RW gw g n l' wr' bd W':=⟨h.1.went H (by have:=h.2.2;omega),H.1,h.2.2⟩
theorem RW.bad(h:RW gw g n l wr bd W):RW gw g n l wr true (W.setCell ⟨gw,2,none⟩ (.bool true)) :=
 ⟨h.1.aP 2 _,h.2.1.set h.2.2 2 _,h.2.2⟩
end
theorem Ib gw g n l wr y(j:Nat) w(h:RW gw g n l wr y w)(_:j<18446744073709551616) :
 Calls prog 191 #[.pointer (some ⟨gw,0,none⟩),.int .u64 j] w λe w' =>
  e=.returned (.int .u64 ((lA j l wr y).1:Int))/\RW gw g n (lA j l wr y).2.1 (lA j l wr y).2.2.1 (lA j l wr y).2.2.2 w'/\ag (XW gw g) w w':=by
 have B:=ae (sM g l wr w h.2.1)
 unfold lA
 generalize aw l wr=a at *
 obtain⟨x,G,F⟩:=a
 simp only at B⊢
 have q:=h.1.cell
 by_cases C:x<j
 ·have E:¬(j:Int)<=x:=af;rw[if_pos C];simp only;go_in;go_wp2_with fail
  apply aI B.aa;intro D u;have t:=h.went u;have A:=ag.went (X:=XW gw g) u (.inl rfl);go_wp2;go_ret;exact⟨rfl,t,A⟩
 ·have E:(j:Int)<=x:=af;rw[if_neg C];simp only;go_in;go_wp2_with fail
  apply aI B.aa;intro D u;have t:=h.went u;have A:=ag.went (X:=XW gw g) u (.inl rfl);have q:=t.1.cell;have z:=t.1.frozen;go_wp2;go_ret;exact⟨rfl,t.bad,A.tr (ag.bK (X:=XW gw g) (.inr rfl) 2 _)⟩
theorem abM gw g n l wr t w(h:RW gw g n l wr t w) :
 Calls prog 198 #[.pointer (some ⟨gw,0,none⟩)] w λe w' =>
  e=.returned (.agg (dh (iI l wr t).1))/\RW gw g n (iI l wr t).2.1 (iI l wr t).2.2.1 (iI l wr t).2.2.2 w'/\ag (XW gw g) w w':=by
 have A:=λW hW=>Ib gw g n l wr t 16 W hW af
 have hlt:=zZ 16 af l wr t
 unfold iI Em lR Cw
 generalize lA 16 l wr t=a at *
 obtain⟨x,T,Q,fD⟩:=a
 simp only at A hlt⊢
 have E:=sM g T Q
 generalize aw T Q=a at *
 obtain⟨y,V,O⟩:=a
 simp only at E⊢
 have C:=sM g V O
 generalize aw V O=a at *
 obtain⟨z,l3,CY⟩:=a
 simp only at C⊢
 rw[show ((16:Nat):Int)=16 from rfl]at A
 replace A:=ae A
 replace E:=ae E
 replace C:=ae C
 have:IntKind.i64.wrap (x:Int)=x:=LK
 have U:=ah.new w 26 #[.int .i64 0,.int .u64 0,.int .u64 0]
 have h0:=h.st ((K.rf w).al (.cells #[.int .i64 0,.int .u64 0,.int .u64 0] 26))
 have u0:=ag.al (XW gw g) w (.cells #[.int .i64 0,.int .u64 0,.int .u64 0] 26)
 have J:=h.lt
 have:=h.2.2
 go_in
 go_wp2_with fail
 generalize w.alloc _=w1 at *
 apply aI (A.aa w1 h0)
 rintro u⟨h2,M⟩
 have:=U.lt
 have bG:=U.aX M af
 have u02:=u0.tr M
 have:=M.size
 have fM:=ah.new u 26 #[.int .i64 x,.int .u64 0,.int .u64 0]
 have dU:=bG.alloc (.cells #[.int .i64 x,.int .u64 0,.int .u64 0] 26)
 have I:=h2.st ((K.rf u).al (.cells #[.int .i64 x,.int .u64 0,.int .u64 0] 26))
 have u03:=u02.tr (ag.al (XW gw g) u (.cells #[.int .i64 x,.int .u64 0,.int .u64 0] 26))
 go_upto_region 2 with fail
 generalize u.alloc _=w3 at *
 generalize u.heap.size=j at *
 have q:=I.1.cell
 go_wp2_with fail
 apply aI (E.aa w3 I.2.1)
 intro N D
 have h4:=I.went D
 have eN:=dU.went D af
 have G:=fM.went D af
 have u04:=u03.tr (ag.went (X:=XW gw g) D (.inl rfl))
 have q:=G.cell
 have R:=G.frozen
 go_upto_region 3 with fail
 have eB:ah (N.setCell ⟨j,1,none⟩ (.int .u64 y)) j 26 #[.int .i64 x,.int .u64 y,.int .u64 0]:=G.aP 1 _
 have F:=h4.far (b:=j) af 1 (.int .u64 y)
 have iL:=eN.far (p:=⟨j,1,none⟩) aY (.int .u64 y)
 have u05:=u04.fresh (b:=j) af 1 (.int .u64 y)
 generalize N.setCell _ _=w5 at *
 have q:=F.1.cell
 go_wp2_with fail
 apply aI (C.aa w5 F.2.1)
 intro S B
 have h6:=F.went B
 have oV:=iL.went B af
 have H:=eB.went B af
 have Z:=u05.tr (ag.went (X:=XW gw g) B (.inl rfl))
 have q:=H.cell
 have R:=H.frozen
 go_upto_region 4 with fail
 have Y:ah (S.setCell ⟨j,2,none⟩ (.int .u64 z)) j 26 #[.int .i64 x,.int .u64 y,.int .u64 z]:=H.aP 2 _
 have h7:=h6.far (b:=j) af 2 (.int .u64 z)
 have L:=oV.far (p:=⟨j,2,none⟩) aY (.int .u64 z)
 have u07:=Z.fresh (b:=j) af 2 (.int .u64 z)
 generalize S.setCell _ _=w7 at *
 have q:=Y.cell
 have:=L.cell
 have R:=L.frozen
 go_wp2
 have df:=((L.aP 0 (.int .i64 x)).aP 1 (.int .u64 y)).aP 2 (.int .u64 z)
 have h9:=((h7.far (b:=w.heap.size) J 0 (.int .i64 x)).far (b:=w.heap.size) J 1 (.int .u64 y)).far (b:=w.heap.size) J 2 (.int .u64 z)
 have u09:=((u07.fresh (b:=w.heap.size) (aD _) 0 (.int .i64 x)).fresh (b:=w.heap.size) (aD _) 1 (.int .u64 y)).fresh (b:=w.heap.size) (aD _) 2 (.int .u64 z)
 have e9:=df.cell
 refine bodyPost_ret (v:=.agg #[.int .i64 x,.int .u64 y,.int .u64 z]) (by simp[results,results198,go_sem,e9]) rfl ?_
 exact⟨rfl,h9,u09⟩
theorem an6 gw g n l wr A w(h:RW gw g n l wr A w) :
 Calls prog 194 #[.pointer (some ⟨gw,0,none⟩)] w λe w' =>
  e=.returned (.agg (gV (nu l wr A).1))/\RW gw g n (nu l wr A).2.1 (nu l wr A).2.2.1 (nu l wr A).2.2.2 w'/\ag (XW gw g) w w':=by
 have E:=λW J=>abM gw g n l wr A W J
 unfold nu Em lR
 generalize iI l wr A=a at *
 obtain⟨x,N,L,Q⟩:=a
 simp only at E⊢
 have B:=λW J=>Ib gw g n N L Q 2 W J af
 have hlt:=zZ 2 af N L Q
 generalize lA 2 N L Q=a at *
 obtain⟨y,l2,wr2,bd2⟩:=a
 simp only at B hlt⊢
 rw[show ((2:Nat):Int)=2 from rfl]at B
 replace E:=ae E
 replace B:=ae B
 obtain⟨b,hb⟩:∃b:Bool,b=decide (y=1):=⟨_,rfl⟩
 have:((y:Int)==1)=b:=by rw[hb,Bool.eq_iff_iff];simp;omega
 rw[<- hb]
 clear hb
 have O:=ah.new w 225 #[.int .i64 0,.int .u64 0,.int .u64 0,.bool false]
 have U:=h.st ((K.rf w).al (.cells #[.int .i64 0,.int .u64 0,.int .u64 0,.bool false] 225))
 have u0:=ag.al (XW gw g) w (.cells #[.int .i64 0,.int .u64 0,.int .u64 0,.bool false] 225)
 have G:=h.lt
 have:=h.2.2
 clear h
 obtain⟨t,u,j⟩:=x
 go_in
 go_wp2_with fail
 generalize w.alloc _=w1 at *
 apply aI (E.aa w1 U)
 rintro C⟨X,I⟩
 have:=O.lt
 have V:=O.aX I af
 have Y:=u0.tr I
 have:=I.size
 have S:=ah.new C 225 #[.int .i64 t,.int .u64 u,.int .u64 j,.bool false]
 have dU:=V.alloc (.cells #[.int .i64 t,.int .u64 u,.int .u64 j,.bool false] 225)
 have Z:=X.st ((K.rf C).al (.cells #[.int .i64 t,.int .u64 u,.int .u64 j,.bool false] 225))
 have u03:=Y.tr (ag.al (XW gw g) C (.cells #[.int .i64 t,.int .u64 u,.int .u64 j,.bool false] 225))
 clear U O u0 V X I Y E
 go_upto_region 2 with fail
 generalize C.alloc _=w3 at *
 generalize C.heap.size=D at *
 go_wp2_with fail
 apply aI (B.aa w3 Z)
 rintro T⟨h4,H⟩
 have R:=dU.aX H af
 have F:=S.aX H af
 have u04:=u03.tr H
 clear Z dU S u03 H B
 have q:=F.cell
 have z1:=F.frozen
 go_upto_region 3 with fail
 have eB:ah (T.setCell ⟨D,3,none⟩ (.bool b)) D 225 #[.int .i64 t,.int .u64 u,.int .u64 j,.bool b]:=F.aP 3 _
 have h5:=h4.far (b:=D) af 3 (.bool b)
 have M:=R.far (p:=⟨D,3,none⟩) aY (.bool b)
 have u05:=u04.fresh (b:=D) af 3 (.bool b)
 clear q z1 F h4 R u04
 generalize T.setCell _ _=w5 at *
 have q:=eB.cell
 have:=M.cell
 have z1:=M.frozen
 go_wp2
 have df:=(((M.aP 0 (.int .i64 t)).aP 1 (.int .u64 u)).aP 2 (.int .u64 j)).aP 3 (.bool b)
 have h9:=(((h5.far (b:=w.heap.size) G 0 (.int .i64 t)).far (b:=w.heap.size) G 1 (.int .u64 u)).far (b:=w.heap.size) G 2 (.int .u64 j)).far (b:=w.heap.size) G 3 (.bool b)
 have u09:=(((u05.fresh (b:=w.heap.size) (aD _) 0 (.int .i64 t)).fresh (b:=w.heap.size) (aD _) 1 (.int .u64 u)).fresh (b:=w.heap.size) (aD _) 2 (.int .u64 j)).fresh (b:=w.heap.size) (aD _) 3 (.bool b)
 have e9:=df.cell
 refine bodyPost_ret (v:=.agg #[.int .i64 t,.int .u64 u,.int .u64 j,.bool b]) (by simp[results,results194,go_sem,e9]) rfl ?_
 exact⟨rfl,h9,u09⟩
theorem U8{W W' b T C A n xs}(D:Reads W W.heap.size C A n xs)(hb:ah W b T eM)(H:xs=[]∨∃u∈xs,u∉eM.toList)
 (J:W.heap.size<=W'.heap.size) (hk:∀k,k<W.heap.size->k≠b->W'.heap[k]?=W.heap[k]?):Reads W' W'.heap.size C A n xs:=by
 refine⟨D.1,λI=>?_⟩
 obtain⟨g,y,e,hg,B⟩:=D.2 I
 have F:g≠b:=by
  rintro rfl;rcases H with rfl|⟨u,E,hn⟩
  ·grind
  ·obtain⟨j,t⟩:=List.mem_iff_getElem?.1 E;have G:=B j u t;rw[hb.cell]at G;grind
 refine⟨g,y,e,bw hg J,λj u t=>?_⟩
 rw[World.cell?_of_block (w:=W) (w':=W') (a:=⟨g,y+j,none⟩) (hk g hg F)]
 exact B j u t
theorem axw(l:List cM):l.flatMap kJ=[]∨∃u∈l.flatMap kJ,u∉eM.toList:=aiG
theorem axx(l:List cX):l.flatMap fq=[]∨∃u∈l.flatMap fq,u∉eM.toList:=aiG
theorem axy{W W' b T x v}(h:dx x v W)(J:∀e∈x.es,e≠[])(hb:ah W b T eM)
 (u:W.heap.size<=W'.heap.size) (hk:∀k,k<W.heap.size->k≠b->W'.heap[k]?=W.heap[k]?):dx x v W':=by
 obtain⟨vf,M,rfl,⟨A,c,rfl,G⟩,D,d,rfl,⟨css,j,I⟩,F⟩:=h
 refine⟨_,_,rfl,⟨A,c,rfl,U8 G hb (axx _) u hk⟩,D,d,rfl,⟨css,⟨j.1,λi H E=>?_⟩,U8 I hb ?_ u hk⟩,F⟩
 ·obtain⟨v,e,t,c1,rfl,y⟩:=j.2 i H E;exact⟨_,e,t,c1,rfl,U8 y hb (axw _) u hk⟩
 ·cases hes:x.es with
  | nil => refine .inl (List.eq_nil_of_length_eq_zero ?_);rw[j.Gj,hes];rfl
  | cons L es =>
   have B:0<x.es.length:=aB;have C:0<css.length:=by rw[j.1];exact B
   obtain⟨v,e,t,c1,rfl,y⟩:=j.2 0 B C;refine .inr ⟨.slice t x.es[0].length c1,List.mem_flatten.2 ⟨css[0],bT C,aB⟩,?_⟩;simp_all
theorem aud b:∀e∈(lP b).es,e≠[]:=by
 unfold lP
 cases hd:iA b with
 | none=>simp[dC]
 | some x =>
  intro e j
  obtain⟨-,-,hk⟩:=DI (UC hd).2
  grind [lP,fN]
def zh(gb:Nat)(x:aL)(u:Value)(W:World):Prop:=∀W',ag (λk=>k<gb) W W'->dx x u W'
theorem aiH gb x:∀v w w',zh gb x v w->Below w.heap.size w w'->zh gb x v w':=by rintro v w w' h k;exact λW' u=>h W' ((ag.aU k _).tr u)
def RO(gb:Nat)(x:aL)(c:Int)(v:Value)(W:World):Prop:=∃u,v=.tuple #[u,.int .i64 c]/\zh gb x u W
theorem axz gb x c:∀v w w',RO gb x c v w->Below w.heap.size w w'->RO gb x c v w':=by rintro v w w'⟨u,e,h⟩ k;exact⟨u,e,aiH _ _ _ _ _ h k⟩
def MJ(gb:Nat)(T:TypeId)(v:Value)(W:World):Prop:=∃b,v=.pointer (some ⟨b,0,none⟩)/\gb<=b/\ah W b T eM
theorem axA gb T:∀v w w',MJ gb T v w->Below w.heap.size w w'->MJ gb T v w':=by rintro v w w'⟨b,e,j,t⟩ k;exact⟨b,e,j,t.ay k⟩
theorem av1{gb g T}(hg:g<gb):∀v w w',MJ gb T v w->w.grownBy w' (some g)->MJ gb T v w':=by rintro v w w'⟨b,e,j,t⟩ k;exact⟨b,e,j,t.grown k aB⟩
theorem aeF{gb x u w w' b T}(h:zh gb x u w)(D:∀e∈x.es,e≠[])(hb:ah w b T eM)(hg:w.grownBy w' (some b)):zh gb x u w':=by
 intro y up;obtain⟨j,A⟩:∃j:World,j={ y with heap:=y.heap.setIfInBounds b (.cells eM T (0,0)) }:=⟨_,rfl⟩;have:=bw hb.lt (bo hg.size up.size);have C:ah j b T eM:=by grind [ah]
 have B:∀k,k≠b->j.heap[k]?=y.heap[k]?:=by
  grind
 have G:j.heap.size=y.heap.size:=aB;have E:ag (λk=>k<gb) w j:=by
  refine⟨?_,?_,?_,by rw[G];exact bo hg.size up.size,λk hk F=>?_⟩
  ·rw[A];exact up.os.trans hg.os
  ·rw[A];exact up.tape.trans hg.tape
  ·rw[A];exact up.output.trans hg.output
  ·by_cases t:k=b
   ·subst t;exact C.trans hb.symm
   ·rw[B k t,up.block k (bw hk hg.size) F];exact hg.block k hk aB
 exact axy (h j E) D C af (λk _ t=>(B k t).symm)
theorem aqJ{P ρ w} s x T ty t g o cur cells(hs:ρ s=.pointer (some ⟨g,o,none⟩))(hx:ρ x=.agg cells)(hb:ah w g t cur)
 (A:(P.info? T).map (·.size)=some cells.size) (B:o+cells.size<=cur.size) (y:∀u∈cells.toList,u.oneCell'=true) :
 ∃w',(execOp ρ (aG (.store T s x) ty)).run P w=.ok .skip w'/\ah w' g t (cur.toList.take o++cells.toList++cur.toList.drop (o+cells.size)).toArray/\w.grownBy w' (some g):=by
 have hst:=run_storeCells_at P g o t cells.toList 0 cur w hb af y
 simp only[Nat.add_zero,Array.length_toList]at hst
 refine⟨_,?_,setRow_heap w g cur _ t _ hb,⟨rfl,rfl,rfl,aj,λk hk j=>setRow_other w g k _ (λe=>j DW)⟩⟩
 cases hq:P.info? T with
 | none=>simp[hq]at A
 | some i => exact ahb
theorem anZ gw g n l wr t w(h:RW gw g n l wr t w)(hl:l.length<=1000000000)(hn0:0<=n)(dX:n<=1000000000) :
 Calls prog 196 #[.pointer (some ⟨gw,0,none⟩)] w λe w' =>
  ∃v,e=.returned v/\zh w.heap.size (ja n l wr t).1 v w'/\RW gw g n (ja n l wr t).2.1 (ja n l wr t).2.2.1 (ja n l wr t).2.2.2 w'/\ag (XW gw g) w w':=by
 have C1:=λW (hW:Rd W g l wr)=>KX g l wr n W hW hl af af
 have Dy:=Ip n l wr
 unfold ja
 generalize aM n l wr=a at *
 obtain⟨bs,l1,eV⟩:=a
 simp only at C1 Dy⊢
 have hne:=aud bs
 have U:=λW v (hv:sl bs v W)=>Ue bs v W hv af
 obtain⟨j,Gd⟩:∃j,j=yF bs:=⟨_,rfl⟩
 obtain⟨x,N⟩:∃x,x=lP bs:=⟨_,rfl⟩
 have HC:Hid (j=0/\(t||(iA bs).isNone)=t∨j=110/\(t||(iA bs).isNone)=true):=ae (by
  rw[Gd];unfold yF;cases iA bs <;> simp)
 simp only[<- Gd,<- N]at U hne⊢
 clear Gd N
 generalize (t||(iA bs).isNone)=bd9 at *
 have C1:=ae C1
 have U:=ae U
 have HN:=ae hne
 clear hne
 have dH:=ah.new w 126 eM
 have h0:=h.st ((K.rf w).al (.cells eM 126))
 have u0:=ag.al (XW gw g) w (.cells eM 126)
 have eO:=h.lt
 have hgg:=h.2.2
 clear h
 go_in
 go_upto_region 1 with fail
 generalize w.alloc _=w1 at *
 obtain⟨gb,hgb⟩:∃gb,gb=w1.heap.size:=⟨_,rfl⟩
 have M3:w.heap.size<gb:=by rw[hgb];exact dH.lt
 obtain⟨C,M⟩:∃C:World->Prop,C=λW=>ag (XW gw g) w W/\gb<=W.heap.size/\ah W w.heap.size 126 eM/\ah W gw 264 #[.pointer (some ⟨g,0,none⟩),.int .i64 n,.bool t]:=⟨_,rfl⟩
 have hg:∀W W',C W->Below W.heap.size W W'->C W':=by subst M;rintro W W'⟨B,h2,h3,h4⟩ hb;exact⟨B.tr (ag.aU hb _),bo h2 hb.size,h3.ay hb,h4.ay hb⟩
 have hc0:C w1:=by rw[M];exact⟨u0,by omega,dH,h0.1⟩
 obtain⟨F,Z⟩:∃F:(Nat->Bool)->(Nat->Value)->World->Prop,F=λL V W=>C W/\RW gw g n l1 eV t W/\(∃u,V 10=.tuple #[u,.int .i64 j])/\(L 12=true->V 12=.int .i64 j)/\(L 15=true->V 15=.int .i64 j) /\
  ∃b vf H,V 13=.pointer (some ⟨b,0,none⟩)/\gb<=b/\ah W b 126 (aE x vf H)/\zh gb x (.agg (aE x vf H)) W:=⟨_,rfl⟩
 refine an5 8 14 [0,1,2,3,4,5,6,7,8,9,10,11,13] [15] C (λW=>RW gw g n l wr t W) (λW=>RW gw g n l1 eV t W) (λW W'=>W.grownBy W' (some g)) F [aJ (.pointer (some ⟨gw,0,none⟩)),
  aJ (.pointer (some ⟨gw,0,none⟩)),
  aJ (.pointer (some ⟨gw,0,none⟩)),
  aJ (.pointer (some ⟨g,0,none⟩)),
  aJ (.pointer (some ⟨gw,0,none⟩)),
  aJ (.pointer (some ⟨gw,0,none⟩)),
  aJ (.pointer (some ⟨gw,1,none⟩)),
  aJ (.int .i64 n),
  sl bs,
  RO gb x j,
  RO gb x j,
  zh gb x,
  aJ (.int .i64 j),
  MJ gb 126,
  Rh,
  aJ (.int .i64 j)]
  [([],[]),([0],[(6,0)]),([1],[(7,1)]),([2],[(8,2)]),([],[]),([4],[(10,4)]),([5],[(11,5)]),([6],[(12,6)]),([3,7],[(9,3),(13,7)]),([8],[(14,8)]),([9],[(15,9)]),([10],[(5,10)]),([10],[(5,10)]),([],[]),([10,13,11],[(3,13),(16,11)]),([12,14],[(17,12)])] 24 rfl cC cC cC ax ax ax cC cC hg (λW W' h k=>h.st k) (λW W' h k=>h.st k) (by exact hg _ _ hc0 (Below.drew (cP _ _))) (h0.st (Below.drew (cP _ _))) ?st ?st2 ?ow ?_
 case st =>
  simp only[cz]
  and_intros
  all_goals first|exact ax8 _|exact awp|exact nP _|exact axz _ _ _|exact aiH _ _|exact axA _ _|simp
 case st2 =>
  simp only[List.zipIdx_cons,List.zipIdx_nil,cz,mz,Nat.reduceAdd]
  and_intros
  all_goals first|exact .inl rfl|exact .inr (λ_ _ _ h _=>h)|exact .inr (av1 af)|simp
 case ow =>
  simp only[I2,I0,List.contains_cons,List.contains_nil,Nat.reduceBEq,Bool.or_false,Bool.or_true,Bool.false_eq_true,if_true,if_false,Nat.reduceEqDiff,Nat.reduceAdd,and_true,true_and]
  and_intros
  all_goals try trivial
  all_goals
   first
   | (intro V w' A hp
      rw[M]at A
      obtain⟨G,R,E,dP⟩:=A
      have q:=dP.cell
      try simp only[cz,bV,bW,aJ]at hp
      try (simp[bO,aF,List.lookup,hp,bV,bW,cU,execOp,aG,aJ,undef,cP,q,go_sem];done))
   | skip
  ·have hD:=hp;intro hp2;simp only[cz,bV,bW,aJ]at hp2;simp[aF,List.lookup,hp2,bV,bW,Rg,execOp,aG,go_sem];refine (C1.aa w' hD.2.1).mono ?_;rintro e w2⟨v,rfl,oo,S⟩;refine⟨v,rfl,oo,?_,hD.went S,S.2⟩;rw[M];exact⟨G.tr (ag.went S (.inl rfl)),bo R S.2.size,E.went S af,dP.went S af⟩
  ·simp[bO,aF,List.lookup,bV,bW,cU,execOp,aG,go_sem];refine (U.aa w' (V 8) hp.1).mono ?_;rintro e w2⟨v,rfl,Q,k⟩;exact⟨_,rfl,⟨v,rfl,λW' u=>Q W' (u.rI (λk B _ _ N=>af))⟩,k⟩
  ·obtain⟨⟨u,e9,B⟩,-⟩:=hp;simp[e9,bO,aF,List.lookup,bV,bW,cU,execOp,aG,go_sem];exact⟨B,cP _ _⟩
  ·intro L V w' qL T Y;rw[Z]at Y⊢;obtain⟨A,D,⟨u,e9⟩,-,Hn,hrest⟩:=Y;generalize hA:aF [(5,10)] _ V=J;have e5:J (.tmp 5)=.tuple #[u,.int .i64 j]:=by rw[<- hA];exact e9
   have hrun:(execOp J (aG (.extract (.tmp 5) 1) 29)).run prog w'=.ok (.value (.int .i64 j)) w':=by simp[e5,execOp,aG,go_sem]
   rw[hrun];refine⟨A,D,⟨u,fk⟩,λ_=>cC,λh=>?_,?_⟩
   ·have:=Hn fk;simpa [ba]using this
   ·assumption
  ·obtain⟨⟨u,e9,B⟩,-⟩:=hp;simp[e9,bO,aF,List.lookup,bV,bW,cU,execOp,aG,aJ,cP,go_sem]
  ·simp[bO,bV,bW,cU,execOp,aG,go_sem];exact⟨⟨w'.heap.size,rfl,R,ah.new _ _ _⟩,(K.rf w').al _⟩
  ·intro L V w' T A D hp;have hd':=D;have f10:=hp 10 (T 10 aj);have f11:=hp 11 (T 11 aj);have f13:=hp 13 (T 13 aj);have f12:=hp 12;have f15:=hp 15;simp only[bV,bW,aJ]at f10 f11 f13 f12 f15;obtain⟨u10,gu,-⟩:=f10;obtain⟨b,Dm,oT,hblk⟩:=f13;obtain⟨vf,H,rN,hf,Q⟩:=f11 w' (ag.rf _ _);rw[rN]at f11;generalize hA:aF [(3,13),(16,11)] _ V=J;have es4:J (.tmp 3)=.pointer (some ⟨b,0,none⟩):=by rw[<- hA];exact Dm
   have ex4:J (.tmp 16)=.agg (aE x vf H):=by rw[<- hA];exact rN
   obtain⟨w'',hrun,hb2,y⟩:=aqJ (P:=prog) (ρ:=J) (.tmp 3) (.tmp 16) 126 0 126 b 0 eM (aE x vf H) es4 ex4 hblk cC aj (aW.one (x:=x) (w:=w') ⟨vf,H,rfl,hf,Q⟩);rw[hrun];rw[M]at A;obtain⟨G,R,E,dP⟩:=A;have I:Below gb w' w'':=⟨y.os,y.tape,y.output,y.size,λi hi=>y.block i (bw hi R) aB⟩;show F _ _ w'';rw[Z];refine⟨?_,⟨hd'.1.below I af,hd'.2.1.below I af,hd'.2.2⟩,⟨u10,fk⟩,λh=>?_,λh=>?_,b,vf,H,fk,oT,hb2,aeF f11 HN.aa hblk y⟩
   ·rw[M];exact⟨⟨y.os.trans G.os,y.tape.trans G.tape,y.output.trans G.output,bo G.size y.size,λk hk N=>(I.block k af).trans (G.block k hk N)⟩,bo R y.size,E.below I af,dP.below I af⟩
   ·have:=f12 fk;simpa [ba]using this
   ·have:=f15 fk;simpa [ba]using this
  ·intro L V w' qL T Y;rw[Z]at Y⊢;obtain⟨A,D,Q,h12,-,hrest⟩:=Y;have G4:=h12 (T 12 aj);generalize hA:aF [(17,12)] _ V=J;have e5:J (.tmp 17)=.int .i64 j:=by rw[<- hA];exact G4
   have hrun:(execOp J (aG (.assign (.tmp 17)) 29)).run prog w'=.ok (.value (.int .i64 j)) w':=by simp[e5,execOp,aG,go_sem]
   rw[hrun];refine⟨A,D,fk,λ_=>fk,λ_=>cC,fk⟩
 intro V W Ol
 rw[Z]at Ol
 obtain⟨A,D,-,-,Hn,b,vf,H,Dm,oT,hblk,EB⟩:=Ol
 have sE:=Hn ax
 rw[M]at A
 obtain⟨G,R,E,-⟩:=A
 obtain⟨jQ,ER,e9,hf,Q⟩:=EB W (ag.rf _ _)
 obtain⟨rfl,rfl⟩:vf=jQ/\H=ER:=by
  grind
 obtain⟨A9,c9,rfl⟩:=b5 hf
 obtain⟨D9,d9,rfl⟩:=av Q
 have kU:=ae EB
 clear Z M hg hc0 EB hf Q e9 Hn h0 u0 dH C1 U
 simp only[fT,Act.put,rW,rh,qZ,Dm,sE]
 have aFO:w.heap.size<b:=af
 have fin:∀(W1:World) (fD:Bool),ag (XW gw g) w W1->ah W1 w.heap.size 126 eM->RW gw g n l1 eV fD W1->zh w.heap.size x (.agg (aE x (.slice A9 x.f.length c9) (.slice D9 x.es.length d9))) W1 ->
  ∃O,O=dY W1 w.heap.size 0 (aE x (.slice A9 x.f.length c9) (.slice D9 x.es.length d9)).toList/\ah O w.heap.size 126 (aE x (.slice A9 x.f.length c9) (.slice D9 x.es.length d9))/\zh w.heap.size x (.agg (aE x (.slice A9 x.f.length c9) (.slice D9 x.es.length d9))) O/\RW gw g n l1 eV fD O/\ag (XW gw g) w O:=by
  intro W1 fD B h2 h3 h4
  have us:=ag.sets (X:=λk=>k=w.heap.size) (g:=w.heap.size) rfl (aE x (.slice A9 x.f.length c9) (.slice D9 x.es.length d9)).toList 0 W1
  have df:=(((((((h2.aP 0 (.int .i64 x.kind)).aP 1 (.int .i64 x.br)).aP 2 (.int .u64 x.life)).aP 3 (.int .u64 x.bY)).aP 4 (.int .i64 x.cl)).aP 5 (.int .u64 x.sub)).aP 6 (.slice A9 x.f.length c9)).aP 7 (.slice D9 x.es.length d9)
  have y:W1.grownBy (dY W1 w.heap.size 0 (aE x (.slice A9 x.f.length c9) (.slice D9 x.es.length d9)).toList) (some w.heap.size):=⟨us.os,us.tape,us.output,us.size,λk hk hne=>us.block k hk aB⟩
  have I:Below w.heap.size W1 (dY W1 w.heap.size 0 (aE x (.slice A9 x.f.length c9) (.slice D9 x.es.length d9)).toList):=⟨us.os,us.tape,us.output,us.size,λk hk=>us.block k (Nat.lt_trans hk h2.lt) af⟩
  exact⟨_,rfl,df,aeF h4 HN.aa h2 y,⟨h3.1.below I eO,h3.2.1.below I af,h3.2.2⟩,⟨us.os.trans B.os,us.tape.trans B.tape,us.output.trans B.output,bo B.size us.size,λk hk N=>(I.block k hk).trans (B.block k hk N)⟩⟩
 have akZ:=ae fin
 have aj4:zh w.heap.size x (.agg (aE x (.slice A9 x.f.length c9) (.slice D9 x.es.length d9))) W:=λW' up=>kU.aa W' ⟨up.os,up.tape,up.output,up.size,λk hk N=>up.block k hk af⟩
 clear fin kU
 rcases HC.aa with ⟨rfl,rfl⟩|⟨rfl,rfl⟩
 ·have q:=hblk.cell;have y1:=E.cell;have z1:=E.frozen;obtain⟨O,J0,bq,Bv,xR,Kn⟩:=akZ.aa W bd9 G E D aj4;exact aiI
 ·have q:=hblk.cell;have y1:=E.cell;have z1:=E.frozen;have q2:=D.1.cell;have z2:=D.1.frozen;have ub:=ag.bK (W:=W) (X:=λk=>k<w.heap.size) (b:=gw) eO 2 (.bool true);obtain⟨O,J0,bq,Bv,xR,Kn⟩:=akZ.aa (W.setCell ⟨gw,2,none⟩ (.bool true)) true (G.tr (ag.bK (X:=XW gw g) (.inr rfl) 2 _)) (E.far (p:=⟨gw,2,none⟩) aY _) D.bad (λW' up=>aj4 W' (ub.tr up));exact aiI
theorem ayB:(prog.info? 225).map (λi=>(i.zero,i.size,i.bytes))=some (some (.agg #[.int .i64 0,.int .u64 0,.int .u64 0,.bool false]),4,32):=by rfl
theorem azl:fS prog 154 225 (.agg #[.int .i64 0,.int .u64 0,.int .u64 0,.bool false]) 4 32:=⟨underlying154,ayB,rfl,ax⟩
theorem axB:(prog.info? 26).map (λi=>(i.zero,i.size,i.bytes))=some (some (.agg #[.int .i64 0,.int .u64 0,.int .u64 0]),3,24):=by rfl
theorem TID:fS prog 44 26 (.agg #[.int .i64 0,.int .u64 0,.int .u64 0]) 3 24:=⟨underlying44,axB,rfl,ax⟩
theorem av2:(prog.info? 126).map (λi=>(i.zero,i.size,i.bytes))=some (some (.agg eM),8,96):=by rfl
theorem ayC:fS prog 43 126 (.agg eM) 8 96:=⟨underlying43,av2,rfl,ax⟩
theorem an7 gw g n l t y w(h:RW gw g n l t y w)(_:l.length<=1000000000)(_:0<=n)(_:n<=1000000000) :
 Calls prog 193 #[.pointer (some ⟨gw,0,none⟩),.func (Fn.func 194) #[] #[]] w λe w' =>
  ∃v,e=.returned v/\nZ ou w.heap.size (gT nu l t y).1 v w'/\RW gw g n (gT nu l t y).2.1 (gT nu l t y).2.2.1 (gT nu l t y).2.2.2 w'/\ag (XW gw g) w w':=by
 have H:=Ib gw g n l t y 17 w h af
 have S:=zZ 17 af l t y
 have kQ:=(yr 17 af).len l t y
 unfold gT
 generalize lA 17 l t y=a at *
 obtain⟨M,B,A,C⟩:=a
 simp only at H S kQ⊢
 rw[show ((17:Nat):Int)=17 from rfl]at H
 have H:=ae H
 have eO:=h.lt
 have hgg:=h.2.2
 have HQ:=ae (λk=>K4 Pa k B A C)
 clear h
 have N:Hid (gB nu M B A C=gB nu M B A C):=ae rfl
 generalize Q:gB nu M B A C=R at N⊢
 have fy:=ae Q
 clear Q N
 go_in
 go_wp2_with fail
 apply aI H.aa
 rintro w1⟨I,O⟩
 go_wp2_with fail
 go_loopw [5,8] (fun o i W=>∃j:Nat,j<=M/\i=.int .u64 j/\∃es E F D,Hid (gB nu j B A C=(es,E,F,D))/\RW gw g n E F D W/\Hid (aV w.heap.size w.heap.size 225 ou es o W)/\ag (XW gw g) w W) (fun _ i _=>M-(intOf i).toNat)
 case atStart=>exact⟨0,af,rfl,[],B,A,C,ae rfl,I,ae (aV.nil _ _ _ _ _),O⟩
 case round =>
  clear I O;obtain⟨j,hj,rfl,es,E,F,D,HJ,Di,HO,uj⟩:=hrel;have J:=HQ.aa j;rw[HJ.aa]at J;simp only at J;obtain⟨mI,V⟩:=J;have aj5:es.length<=17:=af;clear V;have hzj:=uj.size;by_cases vH:j<M
  ·have aO:(j:Int)<M:=af;have Bs:Hid (gB nu (j+1) B A C=(es++[(nu E F D).1],(nu E F D).2)):=ae Xo;go_wp2_with fail
   apply aI (an6 gw g n E F D wr Di);rintro G⟨Gt,u4⟩;generalize Y:nu E F D=X at *;obtain⟨x,lk,DC,DD⟩:=X;simp only at Gt;have EP:Hid (gB nu (j+1) B A C=(es++[x],lk,DC,DD)):=ae Xp;have cY:=HO.aa.up (aD _) (u4.rI (lo:=w.heap.size) (row:=none) (λk I _ _ hx=>af));have il:=u4.size;obtain⟨css,hown,Z,mO⟩:=cY;have kA:=K.new G (.cells (gV x) 225);have T:w.heap.size<=(G.alloc (.cells (gV x) 225)).heap.size:=LL;clear HO HJ Bs Y;go_wp2_with (at_builtin;refine iM rfl _ _ 154 rfl w.heap.size 225 _ 4 32 azl _ _ _ rfl (p7 hown _) (G.heap.size+1) _ 1 1 (gV x).toList rfl ?c1 ?c2 ?c3 T ?_)
   case c1=>exact Reads.new G (gV x).toList 225 4 1 rfl
   case c2=>and_intros <;> rfl
   case c3=>omega
   intro v9 L gJ cd eS bq;have pK:Below w.heap.size (G.alloc (.cells (gV x) 225)) L:=bq;have YO:RW gw g n lk DC DD L:=Xq;have u9:ag (XW gw g) w L:=Xr;have xV:=ae (aV.snoc (cs:=(gV x).toList) Z (λw' u=>mO w' (aK.tr (aK.aU kA _ _) u)) gJ cd tO (λw' u=>rfl));exact Xt
  ·have aO:¬(j:Int)<M:=af;obtain rfl:j=M:=af;have U:=HJ.aa.symm.trans fy.aa;obtain rfl:=U;have HL:Hid (nZ ou w.heap.size es u5 wr):=ae λW' u=>(HO.aa.up (aD _) (u.rI (lo:=w.heap.size) (row:=none) (λk I _ _ hx=>af))).aq
   exact Xu
theorem abN gw g n l t y w(h:RW gw g n l t y w)(_:l.length<=1000000000)(_:0<=n)(_:n<=1000000000) :
 Calls prog 197 #[.pointer (some ⟨gw,0,none⟩),.func (Fn.func 198) #[] #[]] w λe w' =>
  ∃v,e=.returned v/\nZ bZ w.heap.size (gT iI l t y).1 v w'/\RW gw g n (gT iI l t y).2.1 (gT iI l t y).2.2.1 (gT iI l t y).2.2.2 w'/\ag (XW gw g) w w':=by
 have H:=Ib gw g n l t y 17 w h af
 have S:=zZ 17 af l t y
 have kQ:=(yr 17 af).len l t y
 unfold gT
 generalize lA 17 l t y=a at *
 obtain⟨M,B,A,C⟩:=a
 simp only at H S kQ⊢
 rw[show ((17:Nat):Int)=17 from rfl]at H
 have H:=ae H
 have eO:=h.lt
 have hgg:=h.2.2
 have HQ:=ae (λk=>K4 DH k B A C)
 clear h
 have N:Hid (gB iI M B A C=gB iI M B A C):=ae rfl
 generalize Q:gB iI M B A C=R at N⊢
 have fy:=ae Q
 clear Q N
 go_in
 go_wp2_with fail
 apply aI H.aa
 rintro w1⟨I,O⟩
 go_wp2_with fail
 go_loopw [5,8] (fun o i W=>∃j:Nat,j<=M/\i=.int .u64 j/\∃es E F D,Hid (gB iI j B A C=(es,E,F,D))/\RW gw g n E F D W/\Hid (aV w.heap.size w.heap.size 26 bZ es o W)/\ag (XW gw g) w W) (fun _ i _=>M-(intOf i).toNat)
 case atStart=>exact⟨0,af,rfl,[],B,A,C,ae rfl,I,ae (aV.nil _ _ _ _ _),O⟩
 case round =>
  clear I O;obtain⟨j,hj,rfl,es,E,F,D,HJ,Di,HO,uj⟩:=hrel;have J:=HQ.aa j;rw[HJ.aa]at J;simp only at J;obtain⟨mI,V⟩:=J;have aj5:es.length<=17:=af;clear V;have hzj:=uj.size;by_cases vH:j<M
  ·have aO:(j:Int)<M:=af;have Bs:Hid (gB iI (j+1) B A C=(es++[(iI E F D).1],(iI E F D).2)):=ae Xo;go_wp2_with fail
   apply aI (abM gw g n E F D wr Di);rintro G⟨Gt,u4⟩;generalize Y:iI E F D=X at *;obtain⟨x,lk,DC,DD⟩:=X;simp only at Gt;have EP:Hid (gB iI (j+1) B A C=(es++[x],lk,DC,DD)):=ae Xp;have cY:=HO.aa.up (aD _) (u4.rI (lo:=w.heap.size) (row:=none) (λk I _ _ hx=>af));have il:=u4.size;obtain⟨css,hown,Z,mO⟩:=cY;have kA:=K.new G (.cells (dh x) 26);have T:w.heap.size<=(G.alloc (.cells (dh x) 26)).heap.size:=LL;clear HO HJ Bs Y;go_wp2_with (at_builtin;refine iM rfl _ _ 44 rfl w.heap.size 26 _ 3 24 TID _ _ _ rfl (p7 hown _) (G.heap.size+1) _ 1 1 (dh x).toList rfl ?c1 ?c2 ?c3 T ?_)
   case c1=>exact Reads.new G (dh x).toList 26 3 1 rfl
   case c2=>and_intros <;> rfl
   case c3=>omega
   intro v9 L gJ cd eS bq;have pK:Below w.heap.size (G.alloc (.cells (dh x) 26)) L:=bq;have YO:RW gw g n lk DC DD L:=Xq;have u9:ag (XW gw g) w L:=Xr;have xV:=ae (aV.snoc (cs:=(dh x).toList) Z (λw' u=>mO w' (aK.tr (aK.aU kA _ _) u)) gJ cd tO (λw' u=>rfl));exact Xt
  ·have aO:¬(j:Int)<M:=af;obtain rfl:j=M:=af;have U:=HJ.aa.symm.trans fy.aa;obtain rfl:=U;have HL:Hid (nZ bZ w.heap.size es u5 wr):=ae λW' u=>(HO.aa.up (aD _) (u.rI (lo:=w.heap.size) (row:=none) (λk I _ _ hx=>af))).aq
   exact Xu
theorem T1 gw g n l t y w(h:RW gw g n l t y w)(hl:l.length<=1000000000)(hn0:0<=n)(dX:n<=1000000000) :
 Calls prog 195 #[.pointer (some ⟨gw,0,none⟩),.func (Fn.func 196) #[] #[]] w λe w' =>
  ∃v,e=.returned v/\nZ aW w.heap.size (gT (ja n) l t y).1 v w'/\RW gw g n (gT (ja n) l t y).2.1 (gT (ja n) l t y).2.2.1 (gT (ja n) l t y).2.2.2 w'/\ag (XW gw g) w w':=by
 have O:=Ib gw g n l t y 17 w h af
 have hlt:=zZ 17 af l t y
 have kQ:=(yr 17 af).len l t y
 unfold gT
 generalize lA 17 l t y=a at *
 obtain⟨M,B,A,C⟩:=a
 simp only at O hlt kQ⊢
 rw[show ((17:Nat):Int)=17 from rfl]at O
 have O:=ae O
 have eO:=h.lt
 have hgg:=h.2.2
 have HQ:=ae (λk=>K4 (zW n) k B A C)
 clear h
 have V:Hid (gB (ja n) M B A C=gB (ja n) M B A C):=ae rfl
 generalize Z:gB (ja n) M B A C=R at V⊢
 have fy:=ae Z
 clear Z V
 go_in
 go_wp2_with fail
 apply aI O.aa
 rintro w1⟨H,Y⟩
 go_wp2_with fail
 go_loopw [5,8] (fun o i W=>∃j:Nat,j<=M/\i=.int .u64 j/\∃es E F D,Hid (gB (ja n) j B A C=(es,E,F,D))/\RW gw g n E F D W/\Hid (aV w.heap.size w.heap.size 126 aW es o W)/\ag (XW gw g) w W) (fun _ i _=>M-(intOf i).toNat)
 case atStart=>exact⟨0,af,rfl,[],B,A,C,ae rfl,H,ae (aV.nil _ _ _ _ _),Y⟩
 case round =>
  clear H Y;obtain⟨j,hj,rfl,es,E,F,D,HJ,Di,HO,uj⟩:=hrel;have S:=HQ.aa j;rw[HJ.aa]at S;simp only at S;obtain⟨mI,s9⟩:=S;have aj5:es.length<=17:=af;clear s9;have hzj:=uj.size;by_cases vH:j<M
  ·have aO:(j:Int)<M:=af;have Bs:Hid (gB (ja n) (j+1) B A C=(es++[((ja n) E F D).1],((ja n) E F D).2)):=ae Xo;go_wp2_with fail
   apply bN (anZ gw g n E F D wr Di af hn0 dX);rintro v4 I⟨Q,Gt,u4⟩;generalize hX:ja n E F D=X at *;obtain⟨x,lk,DC,DD⟩:=X;simp only at Q Gt;obtain⟨vf,ve,rfl,hf,he⟩:=Q I (ag.rf _ _);obtain⟨N,L,rfl⟩:=b5 hf;obtain⟨J,G,rfl⟩:=av he;have kU:=ae Q;clear Q hf he;have EP:Hid (gB (ja n) (j+1) B A C=(es++[x],lk,DC,DD)):=ae Xp;have cY:=HO.aa.up (aD _) (u4.rI (lo:=w.heap.size) (row:=none) (λk H _ _ hx=>af));have mN:=HO.aa.blk;have il:=u4.size;obtain⟨css,hown,hcl,mO⟩:=cY;have kA:=K.new I (.cells (aE x (.slice N x.f.length L) (.slice J x.es.length G)) 126);have hbase:w.heap.size<=(I.alloc (.cells (aE x (.slice N x.f.length L) (.slice J x.es.length G)) 126)).heap.size:=LL;clear HO HJ Bs hX;go_wp2_with (at_builtin;refine iM rfl _ _ 43 rfl w.heap.size 126 _ 8 96 ayC _ _ _ rfl (p7 hown _) (I.heap.size+1) _ 1 1 (aE x (.slice N x.f.length L) (.slice J x.es.length G)).toList rfl ?c1 ?c2 ?c3 hbase ?_)
   case c1=>exact Reads.new I (aE x (.slice N x.f.length L) (.slice J x.es.length G)).toList 126 8 1 rfl
   case c2=>and_intros <;> rfl
   case c3=>omega
   intro v9 T gJ cd eS bq;have pK:Below w.heap.size (I.alloc (.cells (aE x (.slice N x.f.length L) (.slice J x.es.length G)) 126)) T:=bq;have YO:RW gw g n lk DC DD T:=Xq;have u9:ag (XW gw g) w T:=Xr;have xV:=ae (aV.snoc (cs:=(aE x (.slice N x.f.length L) (.slice J x.es.length G)).toList) hcl (λw' u=>mO w' (aK.tr (aK.aU kA _ _) u)) gJ cd tO (λw' u=>by
    obtain⟨vf,ve,U,H,h2⟩:=kU.aa w' ⟨u.os,u.tape,u.output,bo kA.size u.size,λk hk hx=>(u.block k af (bw hk kA.size) aB).trans (kA.block k hk)⟩;simp only[Value.agg.injEq,Array.mk.injEq,List.cons.injEq,and_true,true_and]at U;obtain⟨rfl,rfl⟩:=U;exact⟨_,_,rfl,H,h2⟩))
   exact Xt
  ·have aO:¬(j:Int)<M:=af;obtain rfl:j=M:=af;have hR:=HJ.aa.symm.trans fy.aa;obtain rfl:=hR;have HL:Hid (nZ aW w.heap.size es u5 wr):=ae λW' u=>(HO.aa.up (aD _) (u.rI (lo:=w.heap.size) (row:=none) (λk H _ _ hx=>af))).aq
   exact Xu
abbrev zML:List Value:=[.int .i64 0,.int .u64 0,.slice none 0 0,.slice none 0 0,.slice none 0 0,.slice none 0 0,.slice none 0 0,.slice none 0 0]
theorem av3 w:lI vP (.agg Jk) w:=⟨_,_,_,_,_,_,rfl,gy _ _,gy _ _,gy _ _,gy _ _,gy _ _,gy _ _⟩
section
variable {w0 W W':World} {r g gw h:Nat} {n:Int} {l l':List UInt8} {wr bd wr' Km:Bool} {cs:Array Value}
theorem nZ.sl{α S gb}{x:List α}{v}(j:nZ S gb x v W):∃A c,v=.slice A x.length c:=av (j W (ag.rf _ _))
theorem Iw{α}(S:dV α) gb W:nZ S gb [] (.slice none 0 0) W:=λ_ _=>gy _ _
end
section
variable {w0 W W':World} {r g gw h:Nat} {n:Int} {l l':List UInt8} {wr bd wr' Km:Bool} {m m':eW} {v1 v2 v3 v4 v5 v6 u1 u2 u3 u4 u5 u6:Value}
theorem DL.go(D:DL w0 r g gw h n l wr bd m v1 v2 v3 v4 v5 v6 W)(u:ag (XW gw g) W W')(j:RW gw g n l' wr' Km W'):DL w0 r g gw h n l' wr' Km m v1 v2 v3 v4 v5 v6 W' :=
 ⟨D.d.aX u j,D.m.mv (u.mono λk hk=>by have:=D.d.o;rcases hk with hk|hk <;> omega)⟩
end
theorem aop b v w(hb:sl b v w)(hn:b.length<=1000000000) :
 Calls prog 113 #[v] w λe w'=>∃v',e=.returned (.tuple #[v',.int .i64 (xh b)])/\(∀W,ag (λk=>k<w.heap.size) w' W->lI (pC b) v' W)/\K w w':=by
 obtain⟨A,c,rfl,t⟩:=hb
 have dH:=ah.new w 156 Jk
 have k0:=dH.aS
 have Br:=(t.below k0 (aD _)).more k0.size
 obtain⟨n,Bf⟩:∃n:Int,n=(b.length:Int):=⟨_,rfl⟩
 have hn0:0<=n:=af
 have dX:n<=1000000000:=af
 obtain⟨k,l1,eV,E,pR⟩:∃k l1 eV E,lA 3 b false false=(k,l1,eV,E):=⟨_,_,_,_,rfl⟩
 obtain⟨got,C,I,sy⟩:∃got C I,aw l1 eV=(got,C,I):=⟨_,_,_,rfl⟩
 have hHd:gE b false false=((k,got),C,I,E):=by simp only[gE,lR,Cw,pR,sy]
 have jE:k<3:=by have:=zZ 3 (by omega) b false false;rw[pR]at this;exact this
 have fg:C.length<=1000000000:=by have g1:=(yr 3 af).len b false false;have g2:=nK l1 eV;rw[pR]at g1;rw[sy]at g2;simp only at g1 g2;omega
 have hwk:IntKind.i64.wrap (k:Int)=k:=LK
 have Y:=λgw g W h=>Ib gw g n b false false 3 W h af
 have C2:=λg W h=>sM g l1 eV W h
 simp only[pR,sy]at Y C2
 rw[show ((3:Nat):Int)=3 from rfl]at Y
 have U:Hid (pI b=if !(mi n b false false).2.2.2&&(!(mi n b false false).2.2.1&&(mi n b false false).2.1.isEmpty)&&dI (mi n b false false).1 then some (mi n b false false).1 else none):=ae (by rw[Bf];rfl)
 have Hx:=ae hHd
 have Y:=ae Y
 have C2:=ae C2
 have Oj:Hid (xh b=if (pI b).isSome then 0 else 130):=ae rfl
 have HMX:Hid (pC b=(pI b).getD vP):=ae rfl
 generalize xh b=CK at *
 generalize pC b=MX at *
 have hzz:w.heap.size<(w.alloc (.cells Jk 156)).heap.size:=aj
 clear hHd pR sy t
 go_in
 go_wp2_with fail
 generalize w.alloc _=w1 at *
 refine (KV A _ c b w1 _ Br (aD _) hn).mono ?_
 rintro e w2⟨g,rfl,hg,oU,k2⟩
 have bG:=dH.ay k2
 have hrg:=bw hzz hg
 replace k0:=k0.tr k2
 have gF:=oU.lt
 clear Br k2 dH hzz hg
 have hw3:RW w2.heap.size g n b false false (w2.alloc (.cells #[.pointer (some ⟨g,0,none⟩),.int .i64 b.length,.bool false] 264)):=by rw[<- Bf];exact⟨ah.new _ _ _,oU.al _,gF⟩
 have Q:=K.new w2 (.cells #[.pointer (some ⟨g,0,none⟩),.int .i64 b.length,.bool false] 264)
 go_upto_region 2 with fail
 generalize w2.alloc _=w3 at *
 have dU:=bG.ay Q
 have T:=k0.tr Q
 generalize eO:w2.heap.size=gw at *
 clear Q bG k0 oU eO
 go_wp2_with fail
 refine (Y.aa gw g w3 hw3).mono ?_
 rintro e w4⟨rfl,h4,Z⟩
 have eN:=dU.aX Z af
 have il:=h4.lt
 have D:DM w w.heap.size g gw w4.heap.size n l1 eV E #[.int .i64 k,.int .u64 0,.slice none 0 0,.slice none 0 0,.slice none 0 0,.slice none 0 0,.slice none 0 0,.slice none 0 0]
  (w4.alloc (.cells #[.int .i64 k,.int .u64 0,.slice none 0 0,.slice none 0 0,.slice none 0 0,.slice none 0 0,.slice none 0 0,.slice none 0 0] 156)):=by
  have Q:=(K.rf w4).al (.cells #[.int .i64 k,.int .u64 0,.slice none 0 0,.slice none 0 0,.slice none 0 0,.slice none 0 0,.slice none 0 0,.slice none 0 0] 156)
  refine⟨h4.st Q,ah.new _ _ _,eN.ay Q,Below.tr ?_ Q,aD _,hrg,gF,il⟩
  exact⟨Z.os.trans T.os,Z.tape.trans T.tape,Z.output.trans T.output,bo T.size Z.size,λi hi=>(Z.block i (bw hi T.size) af).trans (T.block i hi)⟩
 clear hw3 dU T h4 Z eN Y
 go_upto_region 3 with fail
 generalize w4.alloc _=w5 at *
 generalize w4.heap.size=h at *
 have q:=D.rw.1.cell
 go_wp2_with fail
 refine (C2.aa g w5 D.rw.2.1).mono ?_
 rintro e w6⟨rfl,wg⟩
 replace D:=D.aX (ag.went (X:=XW gw g) wg (.inl rfl)) (D.rw.went wg)
 clear q wg C2
 have q:=D.x.cell
 have z:=D.x.frozen
 go_upto_region 4 with fail
 replace D:DL w w.heap.size g gw h n C I E ⟨k,got,[],[],[],[],[],[]⟩ (.slice none 0 0) (.slice none 0 0) (.slice none 0 0) (.slice none 0 0) (.slice none 0 0) (.slice none 0 0) (w6.setCell ⟨h,1,none⟩ (.int .u64 got)):=⟨D.set 1 _,Iw _ _ _,Iw _ _ _,Iw _ _ _,Iw _ _ _,Iw _ _ _,Iw _ _ _⟩
 clear q z
 generalize w6.setCell _ _=w7 at *
 have o:=D.d.o
 clear Bf Y il
 have q:=D.d.x.cell
 go_upto_block 0 with fail
 clear q
 go_cut []from 24 to 45 (fun W=>∃(M:eW) (l:List UInt8) (wr bd:Bool) (v1 v2 v3 v4 v5 v6:Value),DL w w.heap.size g gw h n l wr bd M v1 v2 v3 v4 v5 v6 W/\Hid (pI b=if !bd&&(!wr&&l.isEmpty)&&dI M then some M else none))
 case first =>
  by_cases gL:k=1
  ·subst gL;have y:=U.aa;rw[Qf Hx.aa]at y;obtain⟨S,O,V,L,N⟩:∃x l w c,gT nu C I E=(x,l,w,c):=⟨_,_,_,_,rfl⟩;have J:=bo ((pY Pa).len C I E) fg;have F:=λW H=>an7 gw g n C I E W H fg hn0 dX
   simp only[N]at F J;have F:=ae F;obtain⟨x2,l4,Tv,Tw,R⟩:∃x l w c,gT (ja n) O V L=(x,l,w,c):=⟨_,_,_,_,rfl⟩;have lE:=bo ((pY (zW n)).len O V L) J;have B:=λW H=>T1 gw g n O V L W H J hn0 dX
   simp only[R]at B lE;have B:=ae B;simp only[yU,lR,N,R]at y;have HD:=ae y;clear U Hx hwk y N R;go_wp2_with fail
   refine (F.aa w7 D.d.rw).mono ?_;rintro e G⟨v,rfl,j,t,u⟩;replace j:=j.less (show h+1<=w7.heap.size from D.d.x.lt);obtain⟨A3,c3,rfl⟩:=j.sl;replace D:=D.go u t;clear u t F;have q:=D.d.x.cell;have z:=D.d.x.frozen;go_upto_region 7 with fail;replace D:=D.put (m':=⟨1,got,S,[],[],[],[],[]⟩) 2 _ ⟨j,D.m.2⟩ rfl;clear q z j;generalize G.setCell _ _=Ot at *;go_wp2_with fail
   refine (B.aa Ot D.d.rw).mono ?_;rintro e G⟨v,rfl,j,t,u⟩;replace j:=j.less (show h+1<=Ot.heap.size from D.d.x.lt);obtain⟨A4,c4,rfl⟩:=j.sl;replace D:=D.go u t;clear u t B;have q:=D.d.x.cell;have z:=D.d.x.frozen;go_upto_region 13 with fail;replace D:=D.put (m':=⟨1,got,S,x2,[],[],[],[]⟩) 3 _ ⟨D.m.1,j,D.m.2.2⟩ rfl;clear q z j;generalize G.setCell _ _=wb4 at *;exact Xv
  by_cases hk2:k=2
  ·subst hk2;have y:=U.aa;rw[Qg Hx.aa]at y;obtain⟨S,O,V,L,N⟩:∃x l w c,gT (ja n) C I E=(x,l,w,c):=⟨_,_,_,_,rfl⟩;have J:=bo ((pY (zW n)).len C I E) fg;have F:=λW H=>T1 gw g n C I E W H fg hn0 dX
   simp only[N]at F J;have F:=ae F;obtain⟨x2,l4,Tv,Tw,R⟩:∃x l w c,gT (ja n) O V L=(x,l,w,c):=⟨_,_,_,_,rfl⟩;have lE:=bo ((pY (zW n)).len O V L) J;have B:=λW H=>T1 gw g n O V L W H J hn0 dX
   simp only[R]at B lE;have B:=ae B;obtain⟨x3,l5,wr5,bd5,E2⟩:∃x l w c,gT iI l4 Tv Tw=(x,l,w,c):=⟨_,_,_,_,rfl⟩;have Bq:=bo ((pY DH).len l4 Tv Tw) lE;have L5:=λW H=>abN gw g n l4 Tv Tw W H lE hn0 dX
   simp only[E2]at L5 Bq;have L5:=ae L5;obtain⟨x4,l6,wr6,bd6,hB6⟩:∃x l w c,gT iI l5 wr5 bd5=(x,l,w,c):=⟨_,_,_,_,rfl⟩;have hl6:=bo ((pY DH).len l5 wr5 bd5) Bq;have L6:=λW H=>abN gw g n l5 wr5 bd5 W H Bq hn0 dX
   simp only[hB6]at L6 hl6;have L6:=ae L6;simp only[oL,lR,N,R,E2,hB6]at y;have HD:=ae y;clear U Hx hwk y N R E2 hB6;go_wp2_with fail
   refine (F.aa w7 D.d.rw).mono ?_;rintro e G⟨v,rfl,j,t,u⟩;replace j:=j.less (show h+1<=w7.heap.size from D.d.x.lt);obtain⟨A3,c3,rfl⟩:=j.sl;replace D:=D.go u t;clear u t F;have q:=D.d.x.cell;have z:=D.d.x.frozen;go_upto_region 10 with fail;replace D:=D.put (m':=⟨2,got,[],[],S,[],[],[]⟩) 4 _ ⟨D.m.1,D.m.2.1,j,D.m.2.2.2⟩ rfl;clear q z j;generalize G.setCell _ _=Ot at *;go_wp2_with fail
   refine (B.aa Ot D.d.rw).mono ?_;rintro e G⟨v,rfl,j,t,u⟩;replace j:=j.less (show h+1<=Ot.heap.size from D.d.x.lt);obtain⟨A4,c4,rfl⟩:=j.sl;replace D:=D.go u t;clear u t B;have q:=D.d.x.cell;have z:=D.d.x.frozen;go_upto_region 11 with fail;replace D:=D.put (m':=⟨2,got,[],[],S,x2,[],[]⟩) 5 _ ⟨D.m.1,D.m.2.1,D.m.2.2.1,j,D.m.2.2.2.2⟩ rfl;clear q z j;generalize G.setCell _ _=wb4 at *;go_wp2_with fail
   refine (L5.aa wb4 D.d.rw).mono ?_;rintro e G⟨v,rfl,j,t,u⟩;replace j:=j.less (show h+1<=wb4.heap.size from D.d.x.lt);obtain⟨A5,c5,rfl⟩:=j.sl;replace D:=D.go u t;clear u t L5;have q:=D.d.x.cell;have z:=D.d.x.frozen;go_upto_region 12 with fail;replace D:=D.put (m':=⟨2,got,[],[],S,x2,x3,[]⟩) 6 _ ⟨D.m.1,D.m.2.1,D.m.2.2.1,D.m.2.2.2.1,j,D.m.2.2.2.2.2⟩ rfl;clear q z j;generalize G.setCell _ _=wb5 at *;go_wp2_with fail
   refine (L6.aa wb5 D.d.rw).mono ?_;rintro e G⟨v,rfl,j,t,u⟩;replace j:=j.less (show h+1<=wb5.heap.size from D.d.x.lt);obtain⟨A6,c6,rfl⟩:=j.sl;replace D:=D.go u t;clear u t L6;have q:=D.d.x.cell;have z:=D.d.x.frozen;go_upto_region 13 with fail;replace D:=D.put (m':=⟨2,got,[],[],S,x2,x3,x4⟩) 7 _ ⟨D.m.1,D.m.2.1,D.m.2.2.1,D.m.2.2.2.1,D.m.2.2.2.2.1,j⟩ rfl;clear q z j;generalize G.setCell _ _=wb6 at *;exact Xv
  have y:=U.aa;rw[ajH Hx.aa gL hk2]at y;have HD:=ae y;have hkk:¬(k:Int)=1:=af;have aFP:¬(k:Int)=2:=af;clear U Hx gL hk2 hwk y;exact Xv
 case rest =>
 clear D U Hx
 obtain⟨M,l,wr,bd,v1,v2,v3,v4,v5,v6,D,HD⟩:=hcut
 obtain⟨A1,c1,rfl⟩:=D.m.1.sl
 obtain⟨A2,c2,rfl⟩:=D.m.2.1.sl
 obtain⟨A3,c3,rfl⟩:=D.m.2.2.1.sl
 obtain⟨A4,c4,rfl⟩:=D.m.2.2.2.1.sl
 obtain⟨A5,c5,rfl⟩:=D.m.2.2.2.2.1.sl
 obtain⟨A6,c6,rfl⟩:=D.m.2.2.2.2.2.sl
 have Kj:Hid (∀W,ag (λk=>k<h+1) wc W->lI M (.agg (kj M (.slice A1 M.cG.length c1) (.slice A2 M.asks.length c2) (.slice A3 M.entries.length c3) (.slice A4 M.eD.length c4) (.slice A5 M.dF.length c5) (.slice A6 M.ends.length c6))) W):=ae λW u=>⟨_,_,_,_,_,_,rfl,D.m.1 W u,D.m.2.1 W u,D.m.2.2.1 W u,D.m.2.2.2.1 W u,D.m.2.2.2.2.1 W u,D.m.2.2.2.2.2 W u⟩
 replace D:=D.d
 obtain⟨dn,sK⟩:∃dn,dn=(!wr&&l.isEmpty):=⟨_,rfl⟩
 obtain⟨ok,hok⟩:∃ok,ok=dI M:=⟨_,rfl⟩
 rw[<- sK,<- hok]at HD
 have HDN:=ae sK
 have kX:=ae hok
 clear sK hok
 have qw:=D.rw.1.cell
 cases bd
 rotate_left
 ·exact Xw
 go_wp2_with fail
 refine (KJ g _ _ _ D.rw.2.1).mono ?_
 rintro e w8⟨rfl,rfl⟩
 rw[<- HDN.aa]
 cases dn
 ·exact Xw
 have qm:=D.x.cell
 go_wp2_with fail
 refine (abV M (.agg (kj M (.slice A1 M.cG.length c1) (.slice A2 M.asks.length c2) (.slice A3 M.entries.length c3) (.slice A4 M.eD.length c4) (.slice A5 M.dF.length c5) (.slice A6 M.ends.length c6))) wc (Kj.aa _ (ag.rf _ _))).mono ?_
 rintro e w9⟨rfl,k9⟩
 replace D:=D.st k9
 clear qw qm
 cases ok
 ·have GA:iJ M=130:=by unfold iJ;rw[<- kX.aa];rfl
  rw[GA];clear GA;exact Xw
 have GA:iJ M=0:=by unfold iJ;rw[<- kX.aa];rfl
 rw[GA]
 clear GA
 have q:=D.rv.cell
 have q2:=D.x.cell
 have z:=D.rv.frozen
 have aj6:Hid (pI b=some M):=ae (by rw[HD.aa];simp)
 obtain rfl:CK=0:=by rw[Oj.aa,aj6.aa];rfl
 obtain rfl:MX=M:=by rw[HMX.aa,aj6.aa];rfl
 go_wp2
 have P9:=D.put [.int .i64 MX.kind,.int .u64 MX.got,.slice A1 MX.cG.length c1,.slice A2 MX.asks.length c2,.slice A3 MX.entries.length c3,.slice A4 MX.eD.length c4,.slice A5 MX.dF.length c5,.slice A6 MX.ends.length c6] rfl
 simp only[dY,Nat.reduceAdd,mz]at P9
 clear q q2 z
 generalize World.setCell _ _ _=W9 at *
 have e9:=P9.1.cell
 have o:=D.o
 refine bodyPost_ret (v:=.tuple #[.agg (kj MX (.slice A1 MX.cG.length c1) (.slice A2 MX.asks.length c2) (.slice A3 MX.entries.length c3) (.slice A4 MX.eD.length c4) (.slice A5 MX.dF.length c5) (.slice A6 MX.ends.length c6)),.int .i64 0]) aiK rfl ?_
 exact⟨_,rfl,λW u=>Kj.aa W (((ag.aU k9 _).tr P9.2.2).tr (u.mono λk hk=>bw hk af)),P9.2.1⟩
def LW(B:bf)(j:Int):Bool:=decide (j∈pD B)
def LX(B:bf)(j:Int):Bool:=!nh B&&decide (j=vQ B)
def LM(B:bf)(j:Int)(t par:Bool)(m:eW):bf×Int:=if t&&decide (m.kind=1)then (gA { B with bI:=mw B.bI j m },0)else if par&&decide (m.kind=2)then (qh B m,0)else (B,201)
theorem asl B j b:gX B j b=if LW B j||LX B j then (if xh b=0 then LM B j (LW B j) (LX B j) (pC b)else (B,xh b))else (B,201):=by
 grind [gX,LW,LX,xh,LM,pC,pI]
theorem av4{B}{m:Nat}(j:B.me=(m:Int))(t:m<B.par.length):vQ B=B.par[m]:=by
 grind [vQ]
theorem aoT{M p B w}(h:bA M p B w)(D:bC B)(hF:kO B)(im:B.told.length+16<=1000000) j b R(hb:sl b R w)(bS:b.length<=1000000000) :
 Calls prog 57 #[.pointer (some ⟨p.g,0,none⟩),.int .i64 j,R] w λe w'=>e=.returned (.int .i64 (gX B j b).2)/\dE M p (gX B j b).1 w w':=by
 have HE:=ae (asl B j b)
 have hlo:=h.low
 have akY:=λk hk=>h.low k (h.sub k hk)
 have I:=ae λW (k:K w W)=>h.st k
 have CK:=ae (Ut h D)
 have CR:=ae λW (k:K w W)=>O2 (h.st k)
 have CD:=ae λW (k:K w W)=>aop b R W (nP _ _ _ _ hb k) bS
 have:(pD B).length<=16:=bo (Il _ _) (rU D.tr).2
 have q:=h.q
 have EN:=D.me
 have:=(rU D.tr).2
 simp only[fY,dz,decide_eq_true_eq]at EN
 obtain⟨mn,wh⟩:=Int.eq_ofNat_of_zero_le EN.1
 have Om:mn<B.par.length:=af
 have Tu:=ae (av4 wh Om)
 have MI:=h.bF.now.par
 have H:Hid (LX B j=(!nh B&&decide (j=vQ B))):=ae rfl
 have HIK:Hid (LW B j=decide (j∈pD B)):=ae rfl
 have HG:=ae D
 have HF:=ae hF
 obtain⟨A0,c0,rfl,-⟩:=hb
 obtain⟨g,hg⟩:∃g,Hid (g=p.g):=⟨_,ae rfl⟩
 rw[<- hg.aa]at CK CR q⊢
 obtain⟨pv,hpv⟩:∃pv,Hid (pv=p.vp):=⟨_,ae rfl⟩
 simp only[G0]at q
 rw[<- hpv.aa,wh]at q
 rw[<- hpv.aa]at MI
 obtain⟨Ap,cp,rfl,RL,-⟩:=MI
 obtain⟨bp,op,rfl,hcell⟩:=ints_at RL af
 have qp:=λW (k:K w W)=>hcell W k mn Om
 have uJ:(mn:Int)<B.par.length:=af
 have wj:=ae hlo
 have HLX:=ae akY
 have Y:=K.rf w
 generalize LW B j=t at *
 generalize LX B j=par at *
 generalize pD B=ks at *
 go_in
 go_wp2_with fail
 refine CK.aa.mono ?_
 rintro e w1⟨v1,rfl,fI,k1⟩
 have C2:=ae (abA ks j v1 w1 fI.aq af)
 obtain⟨A1,c1,rfl⟩:=fI.slice
 go_wp2_with fail
 refine C2.aa.mono ?_
 rintro e E⟨rfl,k2⟩
 have F:=k1.tr k2
 rw[<- HIK.aa]
 go_upto_region 4 with fail
 have q2:=λW (k:K E W)=>q W (F.tr k)
 have Ty:=λW (k:K E W)=>qp W (F.tr k)
 have hb2:=Tu.aa.symm
 rw[hb2]at Ty
 generalize vQ B=pb at *
 go_cut [8]from 17 to 33 (fun v W=>v=.bool par/\K E W)
 case first =>
  have C3:=ae λW (k:K E W)=>CR.aa W (F.tr k)
  cases hr:nh B
  ·rw[hr]at C3 H;have Q:Hid (par=decide (j=pb)):=ae (by rw[H.aa];rfl);have kT:(j==pb)=decide (j=pb):=cC;have qs:=And.intro q2 (And.intro Ty uJ);refine dK 17 ?_;refine ar.i ?_;refine ar.is (.bool false) (λV W kW hp=>?_) ?_
   ·(try simp only[cz,aN,aQ,bV,bW,aJ]at hp)
    exact aiL
   iterate 15 refine ar.i ?_
   intro V W kW hA;simp only[aN,aQ,b6,aJ,Nat.reduceAdd]at hA;obtain⟨f0,f1,f2,T,f4,f5,f6,f7,f8,f9,f10,f11,f12,f13,f14,f15,Z,-⟩:=hA;refine aH.pure (.bool par) rfl (by simp[aF,List.lookup,Z,Q.aa,kT,execOp,aG,go_sem]) ?_;exact aiM
  ·rw[hr]at C3 H;have Q:Hid (par=false):=ae (by rw[H.aa];rfl);have qs:=And.intro q2 (And.intro Ty uJ);refine dK 17 ?_;refine ar.i ?_;refine ar.is (.bool true) (λV W kW hp=>?_) ?_
   ·(try simp only[cz,aN,aQ,bV,bW,aJ]at hp)
    exact aiL
   iterate 15 refine ar.i ?_
   intro V W kW hA;simp only[aN,aQ,b6,aJ,Nat.reduceAdd]at hA;obtain⟨f0,f1,f2,T,f4,f5,f6,f7,f8,f9,f10,f11,f12,f13,f14,f15,Z,-⟩:=hA;refine aH.pure (.bool par) rfl (by simp[aF,List.lookup,Z,Q.aa,execOp,aG,go_sem]) ?_;exact aiM
 case rest =>
  obtain⟨rfl,k3⟩:=hcut;have G:=F.tr k3;go_upto_region 5 with fail;go_cut [39]from 34 to 38 (fun v W=>v=.bool (!(t||par))/\wc=W)
  case first =>
   cases t <;> cases par
   all_goals
    go_wp2_with fail
    go_meet
    case rel=>exact⟨rfl,rfl⟩
  case rest =>
   obtain⟨rfl,rfl⟩:=hcut;cases MS:t||par
   ·have HR:Hid (gX B j b=(B,201)):=ae aiN;have HN:=ae ((I.aa w Y).n G);exact aiO
   have HR:Hid (gX B j b=if xh b=0 then LM B j t par (pC b)else (B,xh b)):=ae aiN;have CD4:=ae (CD.aa wc G);go_wp2_with fail
   refine CD4.aa.mono ?_;rintro e w4⟨vm,rfl,hm,k4⟩;have rK:=G.tr k4;obtain⟨m1,m2,m3,m4,m5,m6,rfl,mH,hm2,xG,Bm,Jr,CZ⟩:=hm w4 (ag.rf _ _);obtain⟨A1',c1',rfl⟩:=av mH;obtain⟨U,NU,rfl⟩:=av hm2;obtain⟨A3',c3',rfl⟩:=av xG;obtain⟨A4',c4',rfl⟩:=av Bm;obtain⟨A5',S,rfl⟩:=av Jr;obtain⟨A6',c6',rfl⟩:=av CZ;have hsz:=G.size;have HM:=ae (show Fx M (λW=>lI (pC b) (.agg (kj (pC b) (.slice A1' (pC b).cG.length c1') (.slice U (pC b).asks.length NU) (.slice A3' (pC b).entries.length c3') (.slice A4' (pC b).eD.length c4') (.slice A5' (pC b).dF.length S) (.slice A6' (pC b).ends.length c6'))) W) w4 from λW u=>hm W (u.more λk hk=>bw (wj.aa k hk) hsz));have kX:Hid (xh b=0->dI (pC b)=true/\nX (pC b)):=ae λh=>by
    cases A:pI b with
    | none=>rw[(show xh b=130 by simp[xh,A])]at h;cases h
    | some m => rw[show pC b=m by simp[pC,A]];exact⟨(Pq A).2,PD A⟩
   generalize pC b=m at *;generalize xh b=ec at *;have J:=ah.new w4 156 (kj m (.slice A1' m.cG.length c1') (.slice U m.asks.length NU) (.slice A3' m.entries.length c3') (.slice A4' m.eD.length c4') (.slice A5' m.dF.length S) (.slice A6' m.ends.length c6'));have k5:=J.aS;go_upto_region 8 with fail;generalize World.alloc w4 _=y at *;generalize Dp:w4.heap.size=gx at J⊢;have C:=rK.tr k5;have HM5:=ae (HM.aa.k k5);by_cases X:ec=0;rotate_left
   ·have iT:Hid (gX B j b=(B,ec)):=ae (by rw[HR.aa,if_neg X]);have:(ec != 0)=true:=by simpa using X
    have HN:=ae ((I.aa w Y).n C);go_wp2;go_ret;exact⟨by rw[iT.aa];rfl,by rw[iT.aa];exact HN.aa⟩
   subst X;obtain⟨hok,hfit⟩:=kX.aa rfl;have iT:Hid (gX B j b=LM B j t par m):=ae (by rw[HR.aa,if_pos rfl]);have HMM:Hid (LM B j t par m=if t&&decide (m.kind=1)then (gA { B with bI:=mw B.bI j m },0)else if par&&decide (m.kind=2)then (qh B m,0)else (B,201)):=ae rfl;have YP:=ae hok;have yZ:=ae hfit;have:=J.cell;go_upto_region 11 with fail;go_cut [48]from 49 to 54 (fun v W=>v=.bool (t&&decide (m.kind=1))/\y=W)
   case first =>
    cases t
    ·go_wp2_with fail
     go_meet
     case rel=>exact⟨rfl,rfl⟩
    ·have A:Hid ((m.kind==1)=decide (m.kind=1)):=ae Xg;go_wp2_with fail
     go_meet
     case rel=>exact⟨cC,rfl⟩
   case rest =>
    obtain⟨rfl,rfl⟩:=hcut;have Kg:=ae λW (k:K y W)=>I.aa W (C.tr k)
    cases hc1:t&&decide (m.kind=1)
    ·have HQ:Hid (gX B j b=if par&&decide (m.kind=2)then (qh B m,0)else (B,201)):=ae aiP;go_upto_region 14 with fail;go_cut [63]from 64 to 69 (fun v W=>v=.bool (par&&decide (m.kind=2))/\y=W)
     case first =>
      cases par
      ·go_wp2_with fail
       go_meet
       case rel=>exact⟨rfl,rfl⟩
      ·have A:Hid ((m.kind==2)=decide (m.kind=2)):=ae Xg;go_wp2_with fail
       go_meet
       case rel=>exact⟨cC,rfl⟩
     case rest =>
      obtain⟨rfl,rfl⟩:=hcut;cases ik:par&&decide (m.kind=2)
      ·have HQ2:Hid (gX B j b=(B,201)):=ae aiQ;have HN:=ae ((I.aa w Y).n C);exact aiR
      ·have HQ2:Hid (gX B j b=(qh B m,0)):=ae aiQ;have hA:=(QD YP.aa yZ.aa).2.2.2.2.2.1;have L:∀W,ag M y W->aq ou m.cG (.slice A1' m.cG.length c1') W/\aq aW m.asks (.slice U m.asks.length NU) W/\aq aW m.entries (.slice A3' m.entries.length c3') W/\aq aW m.eD (.slice A4' m.eD.length c4') W/\aq bZ m.dF (.slice A5' m.dF.length S) W/\aq bZ m.ends (.slice A6' m.ends.length c6') W:=λW u=>by obtain⟨_,_,_,_,_,_,e,h⟩:=HM5.aa W u;cases e;exact h
       have L0:=L y (ag.rf _ _);have N:=aqy (Kg.aa y (K.rf _)) HG.aa m _ _ _ _ _ _ L0.1 L0.2.1 (λW u=>(L W u).2.2.1) (λW u=>(L W u).2.2.2.1) (λW u=>(L W u).2.2.2.2.1) (λW u=>(L W u).2.2.2.2.2) YP.aa yZ.aa af;rw[<- hg.aa]at N;have N:=ae N;go_wp2_with fail
       refine N.aa.mono ?_;rintro e w6⟨rfl,hN⟩;have HN:=ae (hN.x8 C HLX.aa);exact aiR
    ·have HQ:Hid (gX B j b=(gA { B with bI:=mw B.bI j m },0)):=ae aiP;have jy:=hg.aa;subst jy;have q5:=λW (k:K y W)=>(Kg.aa W k).q W (K.rf _)
     simp only[G0]at q5;have qx5:=J.cells;go_wp2_with fail
     have qs:=And.intro q5 qx5;refine dK 6 ?_;iterate 6 refine ar.i ?_
     intro V W kW hA;simp only[aN,aQ,b6,aJ,Nat.reduceAdd]at hA;obtain⟨f0,f1,f2,T,f4,f5,-⟩:=hA;obtain⟨w7,jP,Su,hu7⟩:=asj (Kg.aa W kW) j HF.aa.nk (HM5.aa.k kW);refine aH.skip w7 rfl (by simp[aF,List.lookup,T,f4,f5,execOp,aG,jP,go_sem]) ?_;refine aH.e ?_;have Ki:=C.tr kW;have O:=acy Su (Pv (k:=j) HG.aa YP.aa yZ.aa);have U7:=ae ((ag.aU Ki (bu p)).tr (hu7.more λk e=>.inr (.inl e)));have O:=ae O;go_wp2_with fail
     refine O.aa.mono ?_;rintro e w8⟨rfl,hN⟩;have HN:=ae (dE.tr (p:=p) (M:=M) U7.aa rfl (λk hk=>.inl hk) (λk hk=>hk) hN);go_wp2;go_ret;exact⟨nL,by rw[HQ.aa];exact HN.aa⟩
theorem asm c x r s n:nj c (x :: r) s n=if pr s c x=[]then nj c r (kI s x) (n+1)else (pr s c x,n+1):=rfl
theorem aqK{M p B w}(h:bA M p B w)(C:bC B) c j :
 Calls prog 50 #[.pointer (some ⟨p.g,0,none⟩),.int .i64 c,.int .i64 j] w λe w'=>∃v',e=.returned (.tuple #[v',.int .i64 (mE B c j).2.1,.int .i64 (mE B c j).2.2])/\aV w.heap.size w.heap.size 51 cI (mE B c j).1 v' w'/\K w w':=by
 have je:=C.Ed
 have:=C.dk.len
 have q:=h.q
 have U:=h.bF.now.list
 have HP:Hid (mE B c j=if Ch B c then (if 0<=j/\j<=(B.st.list.length:Int)then ((nj c (B.st.list.drop j.toNat) (jW (B.st.list.take j.toNat)) j.toNat).1,((nj c (B.st.list.drop j.toNat) (jW (B.st.list.take j.toNat)) j.toNat).2:Int),0)else ([],0,1))else ([],0,200)):=ae rfl
 have F:=ae (acm h C c)
 have S:=ae λW (k:K w W) n hn=>acu (h.st k) C n hn
 obtain⟨g,gl,gd,gr,gt,vd,vr,vp,vh,vl,vq,va,vt,vf,vw,kr⟩:=p
 simp only at q U F S
 obtain⟨Al,cl,rfl,hl,hcl⟩:=U
 have:B.st.list.length<=300000:=af
 have sG:=ae je.1
 generalize mE B c j=R at *
 generalize SC:Ch B c=HB at *
 go_in
 go_wp2_with fail
 apply aI F.aa
 intro w1 k1
 cases HB
 ·have HF:Hid (R=([],0,200)):=ae Xc;exact Xx
 by_cases G:0<=j/\j<=(B.st.list.length:Int)
 rotate_left
 ·have HF:Hid (R=([],0,1)):=ae (by rw[HP.aa,if_pos rfl,if_neg G]);have J:j<0∨(¬j<0/\(B.st.list.length:Int)<j):=af;rcases J with J|⟨J,ik⟩
  ·exact Xx
  ·exact Xx
 obtain⟨n,rfl⟩:=Int.eq_ofNat_of_zero_le G.1
 have hn:n<=B.st.list.length:=af
 have HF:Hid (R=((nj c (B.st.list.drop n) (jW (B.st.list.take n)) n).1,((nj c (B.st.list.drop n) (jW (B.st.list.take n)) n).2:Int),0)):=ae (by rw[HP.aa,if_pos rfl,if_pos G];rfl)
 have:=UZ (B.st.list.take n)
 have J6:=ahJ (l:=B.st.list.take n) λx D=>sG.aa x (nQ D)
 have:(B.st.list.take n).length=n:=aY
 have:¬((n:Int)<0):=af
 have E:=ae (S.aa w1 k1 n hn)
 go_upto_region 8 with fail
 go_wp2_with fail
 apply bN E.aa
 rintro v2 w2⟨di,k2⟩
 have aAH:aC (λk=>k<w.heap.size) w.heap.size 246 iz (jW (B.st.list.take n)) v2 w2:=(di.less λk hk=>by have:=k1.size;omega).low k1.size
 generalize jW (B.st.list.take n)=s0 at *
 have bB:=k1.tr k2
 go_wp2_with fail
 have hG0:=HF
 go_loopw [10,11,12,13] (fun o i _ _ W=>∃(m:Nat) (s:List lB),m<=B.st.list.length/\i=.int .i64 m/\s.length<=m/\Cq s/\aC (fun k=>k<w.heap.size) w.heap.size 246 iz s o W/\K w W/\Hid (R=((nj c (B.st.list.drop m) s m).1,((nj c (B.st.list.drop m) s m).2:Int),0))) (fun _ i _ _ _=>B.st.list.length-(intOf i).toNat)
 case atStart=>exact⟨n,s0,hn,rfl,af,J6,aAH,bB,hG0⟩
 case round =>
  obtain⟨m,s,hm,rfl,kP,y,hO,kr,HG⟩:=hrel;by_cases I:m<B.st.list.length
  ·have aO:(m:Int)<B.st.list.length:=af;obtain⟨b1,off,cs,rfl,iD,hrl,d0,d⟩:=ed hl m I ax;have H:=sG.aa _ (bT I);have Y:Hid (R=((if pr s c B.st.list[m]=[]then nj c (B.st.list.drop (m+1)) (kI s B.st.list[m]) (m+1)else (pr s c B.st.list[m],m+1)).1,((if pr s c B.st.list[m]=[]then nj c (B.st.list.drop (m+1)) (kI s B.st.list[m]) (m+1)else (pr s c B.st.list[m],m+1)).2:Int),0)):=ae (by
    rw[HG.aa,List.drop_eq_getElem_cons I,asm])
   generalize B.st.list[m]=x at *;obtain⟨vf,A,rfl,X,he⟩:=hrl w (K.rf w);have HE:Hid (∀W,K w W->dx x (.agg (aE x vf A)) W):=ae λW k=>⟨_,_,rfl,eu _ _ _ _ X k,bj he k⟩
   have:∀i,i<8->wr.cell? ⟨b1,off+m*8+i,none⟩=(aE x vf A)[i]?:=λi hi=>(d wr kr i hi).trans Array.getElem?_toList
   have:wr.cell? ⟨b1,off+m*8,none⟩=some (.int .i64 x.kind):=d0 wr kr;have D:=ah.new wr 126 (aE x vf A);have V:K wr (wr.alloc (.cells (aE x vf A) 126)):=(K.rf wr).al _;obtain⟨Af,cf,rfl⟩:=b5 X;obtain⟨Ae,ce,rfl⟩:=av he;go_upto_region 13 with fail;generalize wr.alloc _=Y2 at *;have N:=hO.st V;have L:=kr.tr V;have:=D.cell;have F:=ae (aqm s c x _ _ Y2 N.aq (HE.aa Y2 L) af y H);obtain⟨Ao,co,rfl⟩:=N.slice;go_wp2_with fail
   apply rr F.aa L;intro v4 T cY Z t;have O:=L.size;have EY:=ae (aV.low (aV.floor cY O) O);have Q:=N.st Z;have:=(D.ay Z).cell;obtain⟨A4,c4,rfl⟩:=av cY.sw.aq;by_cases u:pr s c x=[];rotate_left
   ·have hpos:=List.length_pos_iff.2 u;have HF:Hid (R=(pr s c x,((m+1:Nat):Int),0)):=ae (by rw[Y.aa,if_neg u]);have:IntKind.i64.wrap ((m:Int)+1)=(m:Int)+1:=IntWalk.i64_in _ af;generalize pr s c x=bt at *;go_wp2;go_ret3;exact⟨_,D2,by rw[HF.aa];exact EY.aa,t⟩
   have HF:Hid (R=((nj c (B.st.list.drop (m+1)) (kI s x) (m+1)).1,((nj c (B.st.list.drop (m+1)) (kI s x) (m+1)).2:Int),0)):=ae (by rw[Y.aa,if_pos u]);rw[u];by_cases hk:x.kind=1
   ·have HF2:Hid (R=((nj c (B.st.list.drop (m+1)) s (m+1)).1,((nj c (B.st.list.drop (m+1)) s (m+1)).2:Int),0)):=ae (by rw[HF.aa,show kI s x=s from if_pos hk]);have hk2:(x.kind != 1)=false:=FW;go_wp2;go_roundw
    case rel=>exact⟨m+1,s,af,bD,af,y,Q,t,HF2⟩
    case measure=>simp[intOf];omega
   have hk2:(x.kind != 1)=true:=sN;have hs1:kI s x=tS s x:=if_neg hk;have:=adJ s x;have s5:=ahI (x:=x) y H.1;have E:=ae (acr s x _ _ T Q.aq (HE.aa T t) af y H.1);rw[<- hs1]at E;go_wp2_with fail
   apply rr E.aa t;intro v5 w5 mQ k5 mh;have il:=t.size;have km:aC (λk=>k<w.heap.size) w.heap.size 246 iz (kI s x) v5 w5:=(mQ.less λk hk=>af).low il;go_wp2;go_roundw
   case rel=>exact⟨m+1,kI s x,af,bD,af,s5,km,mh,HF⟩
   case measure=>simp[intOf];omega
  ·have aO:¬(m:Int)<B.st.list.length:=af;obtain rfl:m=B.st.list.length:=af;have HF:Hid (R=([],(B.st.list.length:Int),0)):=ae (by rw[HG.aa,List.drop_length];rfl);go_wp2;go_ret3;exact⟨_,D2,WN,kr⟩
section
variable {X X' Z Z':Nat->Prop} {g gd:Nat} {B B':bf} {W W':World}
theorem av5(h:dt X Z g gd B W) a(C:dJ a) j u(y:iy j u W)(A:j.length<=1000000)(t:∀x∈j,lU x) :
 Calls prog 84 #[.pointer (some ⟨g,0,none⟩),cA a,u] W λe w'=>e=.returned (.int .i64 (dR B (ie B.aA a j)).2)/\dt X Z g gd (dR B (ie B.aA a j)).1 w'/\ag (λk=>¬Z k) W w' :=
 h.call (λp hb e=>kg e▸aog hb h.1.tobC a j u y A t) (h.1.FX t C)
theorem axC(h:dt X Z g gd B W) a(j:dJ a) :
 Calls prog 55 #[.pointer (some ⟨g,0,none⟩),cA a] W λe w'=>e=.returned (.int .i64 (dR B (iH B.aA a)).2)/\dt X Z g gd (dR B (iH B.aA a)).1 w'/\ag (λk=>¬Z k) W w' :=
 h.call (λp hb e=>kg e▸aoG hb h.1.tobC a) (h.1.F5 j)
theorem axD(h:dt X Z g gd B W) a :
 Calls prog 53 #[.pointer (some ⟨g,0,none⟩),cA a] W λe w'=>e=.returned (.int .i64 (FU B a))/\K W w':=by
 obtain⟨j,p,hb,hg,-⟩:=h
 obtain rfl:=kg hg
 exact aoM hb j.tobC a
theorem azm(h:dt X Z g gd B W) c j :
 Calls prog 50 #[.pointer (some ⟨g,0,none⟩),.int .i64 c,.int .i64 j] W λe w'=>∃v',e=.returned (.tuple #[v',.int .i64 (mE B c j).2.1,.int .i64 (mE B c j).2.2])/\aV W.heap.size W.heap.size 51 cI (mE B c j).1 v' w'/\K W w':=by
 obtain⟨t,p,hb,hg,-⟩:=h
 obtain rfl:=kg hg
 exact aqK hb t.tobC c j
theorem ayE(h:dt X Z g gd B W) :
 Calls prog 58 #[.pointer (some ⟨g,0,none⟩)] W λe w'=>∃vl vp va,e=.returned (.agg (cJ B.st vl vp va))/\lG (λk=>k<W.heap.size) B.st vl vp va w'/\K W w':=by
 obtain⟨j,p,hb,hg,-⟩:=h
 obtain rfl:=kg hg
 exact api hb j.tobC
end
section
variable {X Z:Nat->Prop} {g gd:Nat} {B:bf} {W:World}
theorem axE(h:dt X Z g gd B W)(u:kO B)(y:B.told.length+16<=1000000) j b t(hb:sl b t W)(A:b.length<=1000000000) :
 Calls prog 57 #[.pointer (some ⟨g,0,none⟩),.int .i64 j,t] W λe w'=>e=.returned (.int .i64 (gX B j b).2)/\dt X Z g gd (gX B j b).1 w'/\ag (λk=>¬Z k) W w' :=
 h.call (λp C e=>kg e▸aoT C h.1.tobC u y j b t hb A) (UK u h.1 j b y).1
theorem ayF(h:dt X Z g gd B W) a(j:dJ a) :
 Calls prog 85 #[.pointer (some ⟨g,0,none⟩),cA a] W λe w'=>e=.returned (.int .i64 (dR B (iW B.aA a)).2)/\dt X Z g gd (dR B (iW B.aA a)).1 w'/\ag (λk=>¬Z k) W w' :=
 h.call (λp hb e=>kg e▸ape hb h.1.tobC a) (h.1.abort j)
end
theorem aqL{B}(t:bC B)(u:kO B):∀x∈ua B,x.2.length<=1000000000:=by
 have key:∀(k:Int) (m:eW),nX m->∀x∈tZ k m,x.2.length<=1000000000:=λk m hm x j=>by
  grind [tZ,avW,gD]
 intro x j
 grind [ua,sS,sU,acC,ab4]
section
variable {m:Int} {p ai:List Int} {B:bf}
theorem zU.note B r(h:zU m p ai B):zU m p ai (dB B r).1:=by
 unfold dB;split
 ·split <;> exact h
 ·exact h
theorem zU.handle(h:zU m p ai B)(u:bC B) t b:zU m p ai (gX B t b).1:=by
 unfold gX;split
 ·split
  ·exact h
  ·next x hx =>
   split
   ·have j:=KS (Pv (k:=t) u (Pq hx).2 (PD hx));exact⟨j.me.trans h.1,j.par.trans h.2.1,j.ai.trans h.2.2⟩
   ·split
    ·exact ad1 zU.note (λ_ _ h=>h) (λ_ _ h=>h) h x
    ·exact h
 ·exact h
end
section
variable {B B':bf} {k j:Nat} {par ai:List Int} {O:bz} {n:Nat} {x:Hw} {m:Int}
theorem AQ.work(t:fF B)(u:j0 B k):AQ B (gA B) (k+1):=by have j:=KS t.tobC;exact⟨t.work,u.work t.tobC,j.life,λh=>⟨j.me.trans h.1,j.par.trans h.2.1,j.ai.trans h.2.2⟩⟩
theorem AQ.handle(u:fF B)(t:j0 B k) j b(hk:k<=50000):AQ B (gX B j b).1 (k+1) :=
 ⟨(UK t.fit u j b (by have:=t.told;omega)).1,t.handle u j b hk,(adf t.inv j b).1.life,λh=>h.handle u.tobC j b⟩
theorem yC{L k l}(h:lM L k=some l):(k,l)∈L:=by
 grind [lM,Option.map_eq_some_iff,List.mem_of_find?_eq_some]
theorem K8 L k l:(iE L k l).map (·.1)=L.map (·.1):=by
 grind [iE,List.map_map,List.map_congr_left]
theorem La{L k l}(h:∀q∈L,q.2.length<=8)(j:l.length<=8):∀q∈iE L k l,q.2.length<=8:=by
 grind [iE]
theorem aue{L}(h:∀q∈L,q.2.length<=8) k b:(ud L k b).map (·.1)=L.map (·.1)/\∀q∈ud L k b,q.2.length<=8:=by
 unfold ud;split
 ·split
  ·next l e hl=>exact⟨K8 _ _ _,La h aB⟩
  ·grind
 ·grind
theorem ad3 n:∀(l:List (Int×List UInt8)) {L:List iV},(∀q∈L,q.2.length<=8)->(l.foldl (λL m=>ud L (n,m.1) m.2) L).map (·.1)=L.map (·.1)/\∀q∈l.foldl (λL m=>ud L (n,m.1) m.2) L,q.2.length<=8
 | [],_,h=>⟨rfl,h⟩
 | x :: l,L,h=>by have t:=aue h (n,x.1) x.2;have j:=ad3 n l t.2;exact⟨j.1.trans t.1,j.2⟩
theorem bM.tick(h:bM par ai O k) n:bM par ai (oJ O n).1 (k+1):=by
 unfold oJ;split
 ·split
  ·exact h.mono (Nat.le_succ k)
  ·next B hu =>
   have j:=h.up hu;have u:=h.put hu (Nat.le_succ k) (.work j.1 j.2.1);have t:=ad3 n (ua (gA B)) h.few;exact u.cD t.1 t.2
 ·exact h.mono (Nat.le_succ k)
theorem bM.D6(h:bM par ai O k)(hk:k<=50000) a b:bM par ai (mV O a b).1 (k+1):=by
 unfold mV;split
 ·exact h.mono (Nat.le_succ k)
 ·exact h.mono (Nat.le_succ k)
 ·next m l hm =>
  have u:=h.few _ (yC hm);simp only[eQ]at u;have j:bM par ai { O with cD:=iE O.cD (a,b) l } k:=h.cD (K8 _ _ _) (La h.few af);have e:cZ { O with cD:=iE O.cD (a,b) l } b=cZ O b:=rfl;simp only[e];split
  ·exact j.mono (Nat.le_succ k)
  ·next B hu =>
   have t:=h.up hu;exact j.put hu (Nat.le_succ k) (.handle t.1 t.2.1 a m hk)
theorem bM.drain a b:∀(j:Nat) {O:bz} {k:Nat},bM par ai O k->k+j<=50000->bM par ai (Cj a b j O) (k+j)
 | 0,_,_,h,_=>h
 | j+1,_,k,h,hk=>by have:=bM.drain a b j (h.D6 af a b) af;rw[show k+(j+1)=k+1+j by omega];exact this
theorem bM.long(h:bM par ai O k) a b:nT O a b<=8:=by
 unfold nT
 cases e:lM O.cD (a,b)with
 | none=>simp
 | some l=>exact h.few _ (yC e)
theorem bM.LY n:∀(l:List Nat) {O:bz} {k:Nat},bM par ai O k->k+8*l.length<=50000->bM par ai (l.foldl (λO (t:Nat)=>if t=n then O else Cj n t (nT O n t) O) O) (k+8*l.length)
 | [],_,_,h,_=>h
 | t :: l,O,k,h,hk=>by
  simp only[eQ,List.foldl_cons]at hk⊢;rw[show k+8*(l.length+1)=k+8+8*l.length by omega];refine bM.LY n l ?_ af;split
  ·exact h.mono af
  ·have:=h.long n t;exact (h.drain n t _ af).mono af
theorem bM.turn(h:bM par ai O k)(hp:par.length<=6)(hk:k+49<=50000) n:bM par ai (vF O n) (k+49):=by
 have t:=h.tick n;have e:=h.uo;unfold vF;split
 ·have j:=bM.LY n (List.range O.par.length) t aB;exact j.mono aB
 ·exact h.mono af
theorem bM.turns(hp:par.length<=6):∀(l:List Nat) {O:bz} {k:Nat},bM par ai O k->k+49*l.length<=50000->bM par ai (l.foldl vF O) (k+49*l.length)
 | [],_,_,h,_=>h
 | t :: l,O,k,h,hk=>by simp only[eQ,List.foldl_cons]at hk⊢;rw[show k+49*(l.length+1)=k+49+49*l.length by omega];exact bM.turns hp l (h.turn hp af t) af
theorem bM.round(h:bM par ai O k)(hp:par.length<=6)(hk:k+588<=50000):bM par ai (sP O) (k+588):=by have e:=h.uo;have j:=bM.turns hp ((List.range O.par.length).reverse++List.range O.par.length) h aB;exact j.mono aB
theorem bM.I3(h:bM par ai O k) n:bM par ai (tU O n).1 k:=by
 unfold tU;split
 ·split
  ·exact h
  ·next B hu =>
   obtain⟨t,j,u,y⟩:=h.up hu;obtain⟨i,rfl,-⟩:=Ck hu;exact h.set i (aD k) ⟨λ_=>⟨B.st,t.dk,u,j.inv.ab,j.inv.prom⟩,λC e=>aB⟩
 ·exact h
theorem bM.IM(h:bM par ai O k) n(hk:k<=50000):bM par ai (tL O n).1 (k+1):=by
 unfold tL;split
 ·next hi =>
  split
  ·exact h.mono (Nat.le_succ k)
  ·next hu =>
   have y:cZ O n=none:=FJ;obtain⟨i,rfl,B,d,s,t,j,D,A,u⟩:=h.down hi y;unfold qi;simp only[Int.toNat_natCast,t,Option.map_some,Option.getD_some,F6 j];split
   ·next hr =>
    rw[h.uo,h.Jl];refine h.set i (Nat.le_succ k) ⟨λe=>by simp at e,λC e=>?_⟩;simp at e;subst e;refine⟨rfl,bC.open_ (h.uo▸h.fZ.tr) ?_ (h.uo▸h.Jl▸h.fZ.hm) (j.life hr),j0.open_ A u,?_,rfl,rfl,rfl⟩
    ·unfold fY;simp;omega
    ·show (s.life+1)%18446744073709551616<=_;omega
   ·exact h.mono (Nat.le_succ k)
 ·exact h.mono (Nat.le_succ k)
theorem bM.Gv(h:bM par ai O k) c:bM par ai (lT O c).1 (k+1):=by
 have hm:=h.mono (Nat.le_succ k);unfold lT;split
 ·split
  ·exact hm
  ·dsimp only;split
   ·refine⟨⟨h.fZ.tr,h.fZ.hm,h.fZ.ln,?_,?_⟩,h.uo,h.Jl,hm.eC,h.key,h.few,λl j=>?_⟩
    ·simp[h.fZ.lc]
    ·dsimp only;split
     ·exact h.fZ.lg
     ·simp[h.fZ.lg]
    ·dsimp only at j;split at j
     ·exact hm.gl l j
     ·obtain⟨i,t,rfl⟩:=List.getElem_of_mem j;rw[List.getElem_modify];have h9:=h.gl _ (bT (show i<O.got.length by grind));split
      ·grind
      ·omega
   ·exact hm
 ·exact hm
end
section
variable {par ai:List Int} {n c:Nat} {O:bz}
theorem aeG(B:bf):∀(l:List eW) o,(∀k∈l,k.asks=[])->l.foldl (λo k=>k.asks.foldl (jJ B) o) o=o
 | [],_,_=>rfl
 | k :: l,o,h=>by rw[List.foldl_cons,h k (List.mem_cons_self ..)];exact aeG B l o λx j=>h x (List.mem_cons_of_mem _ j)
end
