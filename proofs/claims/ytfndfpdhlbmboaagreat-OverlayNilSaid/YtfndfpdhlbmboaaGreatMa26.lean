/-
  A running broker stays one behind its clients' calls (plain). Conditions: none.
-/
import Derived.Test.YtfndfpdhlbmboaaGreatMa25
import Derived.Test.YtfndfpdhlbmboaaGreatMz
set_option maxRecDepth 100000
set_option linter.constructorNameAsVariable false
set_option maxHeartbeats 16000000
set_option linter.unusedVariables false
set_option linter.unusedSimpArgs false
namespace Go.Proofs.YtfndfpdhlbmboaaGreat
open Go Go.RowKit _root_.Go.Proofs.Tryz
def ik(l:List eF):Prop:=∀t∈l,t.asked=false->t.e.kind=1
theorem ik.nil:ik []:=λt h=>by simp at h
theorem ik.erase{l}(h:ik l) k:ik (l.eraseIdx k):=λt j=>h t (List.mem_of_mem_eraseIdx j)
theorem ik.settle{l}(h:ik l) a:ik (fJ l a):=by
 unfold fJ;split
 ·exact h
 ·exact h.erase _
theorem ik.add{l}(h:ik l) t(u:t.asked=true∨t.e.kind=1):ik (vD l t).1:=by
 unfold vD
 repeat' split
 all_goals first|exact h|skip
 intro s j
 rcases List.mem_append.1 j with j|j
 ·exact h s j
 grind
theorem ik.set{l}(h:ik l) k t(A:t.asked=true∨t.e.kind=1):ik (l.set k t):=λs u=>by
 rcases List.mem_or_eq_of_mem_set u with u|rfl
 ·exact h s u
 ·intro y;rcases A with j|j
  ·rw[y]at j;cases j
  ·exact j
theorem ik.Iu{l}(h:ik l) a e:ik (iY l a e).1:=by
 unfold iY;split
 ·exact h
 ·split
  ·exact h
  ·rename_i k t j;repeat' split
   all_goals first|exact h|skip
   refine h.set _ _ ?_;cases hk:t.asked
   ·exact .inr (h t (List.mem_of_getElem? j) hk)
   ·simp
theorem ik.ID{l}(h:ik l) a:ik (jG l a).1:=by
 unfold jG;split
 ·exact h
 ·split
  ·exact h
  ·exact h.set _ _ (.inl rfl)
structure fP(B:bj):Prop extends bD B where
 ux:ik B.aB
theorem bD.put{B}(j:bD B){l n}(t:jo l)(hn:n<4611686018427387904):bD { B with aB:=l,calls:=n } :=
 ⟨j.tr,j.me,j.hm,j.dk,t,hn,j.bQ,j.told,j.fe,j.waits,j.yB⟩
theorem fP.put{B}(j:fP B){l n}(t:jo l)(hk:ik l)(hn:n<4611686018427387904):fP { B with aB:=l,calls:=n } :=
 ⟨j.tobD.put t hn,hk⟩
theorem fP.call{B}(j:fP B)(hn:B.calls+1<4611686018427387904) c{t}(u:jo t.1)(hk:ik t.1):fP (jg B c t).1:=by
 unfold jg;split
 ·split
  ·exact j.put u hk hn
  ·exact j
 ·exact j
theorem fP.begin{B}(j:fP B)(hn:B.calls+1<4611686018427387904){c}(u:cJ c):fP (wT B c).1:=by have t:=j.new;exact j.call hn c (PG j.tx _ ⟨by simp[vE,cJ],t.1,u,t.2.1,t.2.2,Ik,Ik,Ik⟩) (j.ux.add _ (.inr rfl))
theorem fP.ask{B}(j:fP B)(hn:B.calls+1<4611686018427387904){k c}(hk:cJ k)(y:cJ c){n}(A:n<18446744073709551616){f}(C:∀t∈f,jh t):fP (jg B c (wZ B.aB (qY B k c n f))).1:=by have u:=j.new;exact j.call hn c (PG j.tx _ ⟨hk,u.1,y,u.2.1,u.2.2,A,C,by simp[qY]⟩) (j.ux.add _ (.inl rfl))
theorem fP.keep{B}(j:fP B){r}(t:jo r.1)(hk:ik r.1):fP (fo B r).1:=by
 unfold fo;split
 ·exact j.put t hk j.calls
 ·exact j
theorem fP.Iu{B}(j:fP B){a e}(t:∀x∈e,mX x)(u:eu a):fP (fo B (iY B.aB a e)).1 :=
 j.keep (ad1 (l:=B.aB) j.tx ⟨2,a,0,e,dz⟩ u pD t Hz j.ux) (j.ux.Iu a e)
theorem fP.ID{B}(j:fP B){a}(t:eu a):fP (fo B (jG B.aB a)).1 :=
 j.keep (ad1 (l:=B.aB) j.tx ⟨3,a,0,[],dz⟩ t pD aj Hz j.ux) (j.ux.ID a)
theorem Uu{B}(h:ik B.aB) r:ik (cY B r).1.aB:=by
 unfold cY;split
 ·split
  ·exact h
  ·show ik (if r.kind=2 then fJ B.aB (ar r.e)else B.aB);split
   ·exact h.settle _
   ·exact h
 ·exact h
theorem asj{B}(h:ik B.aB) a:ik (nA B a).1.aB:=by
 unfold nA;split
 ·exact (Uu h _).settle _
 ·exact h
theorem at6{l:List aK}:∀ {B:bj},ik B.aB->ik (l.foldl (λb x=>(mq b x).1) B).aB:=by
 induction l with
 | nil=>intro B h;exact h
 | cons x l j=>intro B h;exact j (Uu h _)
theorem at7{kids}{l:List aK}:∀ {p:bj×List aK},ik p.1.aB->ik (l.foldl (kJ kids) p).1.aB:=by
 induction l with
 | nil=>intro p h;exact h
 | cons x l j =>
  intro p h
  refine j ?_
  unfold kJ
  repeat' split
  all_goals first|exact h|exact Uu h _|exact asj h _
theorem fP.work{B}(j:fP B):fP (gZ B):=by
 refine⟨Km j.tobD,?_⟩;unfold gZ;split
 ·exact at7 (p:=(zK B,[])) (at6 j.ux)
 ·exact j.ux
section
variable {P:bj->Prop}
theorem Uv(j:∀B r,P B->P (cY B r).1):∀ {l:List aK} {B:bj} {n:Nat},P B->P (lP B n l)
 | [],B,n,h=>h
 | x :: l,B,n,h=>by
  unfold lP;split
  ·split
   ·exact Uv j (j _ _ h)
   ·exact h
  ·exact Uv j h
theorem acm(j:∀B r,P B->P (cY B r).1){B}(h:P B) a:P (jd B a):=by
 grind [cY,jd]
theorem Uw{α:Type}{f:bj->α->bj}(j:∀B a,P B->P (f B a)):∀ {l:List α} {B:bj},P B->P (l.foldl f B)
 | [],_,h=>h
 | a :: l,B,h=>Uw j (l:=l) (j B a h)
theorem adH(j:∀B r,P B->P (cY B r).1):∀ {l:List aK} {p:bj×List aR},P p.1->P (l.foldl iL p).1
 | [],_,h=>h
 | x :: l,p,h=>by
  refine adH j (l:=l) ?_;unfold iL;split
  ·exact j _ _ h
  ·exact h
theorem adI(j:∀B r,P B->P (cY B r).1)(u:∀B a,P B->P { B with told:=B.told++[a],aB:=fJ B.aB a })(t:∀B l,P B->P { B with refused:=l }){B}(h:P B) m:P (qO B m):=by
 unfold qO uV;refine t _ _ ?_;unfold sH;refine adH j ?_;refine Uw (P:=P) (f:=jd) (λB a h=>acm j h a) ?_;refine Uw (P:=P) (f:=mR) (λB a h=>?_) (Uv j h);unfold mR;split
 ·exact h
 ·simp_all [acm]
end
def QG(c:Nat)(B:bj):Prop:=B.calls=c/\ik B.aB
theorem apO{c} B r(h:QG c B):QG c (cY B r).1:=by
 unfold cY;split
 ·split
  ·exact h
  ·refine⟨h.1,?_⟩;show ik (if r.kind=2 then fJ B.aB (ar r.e)else B.aB);split
   ·exact h.2.settle _
   ·exact h.2
 ·exact h
theorem apP{c B}(h:QG c B) m:QG c (qO B m) :=
 adI apO (λ_ _ h=>⟨h.1,h.2.settle _⟩) (λ_ _ h=>h) h m
theorem Uc{B}(h:kN B)(j:fP B) t b(A:B.told.length+16<=1000000):fP (il B t b).1/\(il B t b).1.calls=B.calls:=by
 have y:=(acg h j.tobD t b A).2.1;suffices u:ik (il B t b).1.aB/\(il B t b).1.calls=B.calls from ⟨⟨y,u.1⟩,u.2⟩
 unfold il;split
 ·split
  ·exact⟨j.ux,rfl⟩
  ·rename_i m hm;have C:=(OY hm).2;have hfit:=Pe hm;split
   ·have g:=O5 (k:=t) j.tobD C hfit;have D:fP { B with bQ:=nV B.bQ t m }:=⟨g,j.ux⟩;exact⟨D.work.ux,(Kn g).calls⟩
   ·split
    ·have:=apP (c:=B.calls) ⟨rfl,j.ux⟩ m;exact⟨this.2,this.1⟩
    ·exact⟨j.ux,rfl⟩
 ·exact⟨j.ux,rfl⟩
structure j8(B:bj)(n:Nat):Prop where
 inv:iq B
 fit:kN B
 told:B.told.length<=16*n
 calls:B.calls<=n
section
variable {B:bj} {n:Nat}
theorem j8.call(h:j8 B n) c j:j8 (jg B c j).1 (n+1):=by
 have h1:=(avO h.inv c j).2;have h2:(jg B c j).1.told=B.told/\(jg B c j).1.refused=B.refused/\(jg B c j).1.bQ=B.bQ/\(jg B c j).1.calls<=B.calls+1:=by
  grind [jg]
 exact ail
theorem j8.keep(h:j8 B n) r:j8 (fo B r).1 (n+1):=by
 have h1:=(avP h.inv r).2;have h2:(fo B r).1.told=B.told/\(fo B r).1.refused=B.refused/\(fo B r).1.bQ=B.bQ/\(fo B r).1.calls=B.calls:=by
  grind [fo]
 exact ail
theorem j8.work(h:j8 B n)(t:bD B):j8 (gZ B) (n+1):=by have j:=Kn t;have:=h.told;have:=h.calls;exact⟨(aej h.inv).2,O3 t h.fit,by rw[j.told];omega,by rw[j.calls];omega⟩
theorem j8.handle(h:j8 B n)(t:fP B) j b(hn:n<=50000):j8 (il B j b).1 (n+1):=by have C:=h.told;have A:=h.calls;have u:=acg h.fit t.tobD j b af;have y:=Uc h.fit t j b af;exact⟨(acU h.inv j b).2,u.1,af,af⟩
end
theorem adJ{α:Type}[DecidableEq α]{k:α}:∀ {ak:List (α×Value)} {i:Nat},fR k ak i=none->∀p∈ak,p.1≠k
 | [],_,_=>aj
 | q :: r,i,h=>by
  unfold fR at h;split at h
  ·cases h
  ·rename_i j;intro p hp;rcases List.mem_cons.1 hp with rfl|hp
   ·exact j
   ·exact adJ h p hp
theorem B4.put{l ak W}(h:B4 l ak W)(hn:(l.map (·.1)).Nodup){k m v}(hm:lF m v W):B4 (nV l k m) (rM ak k v) W:=by
 have B:=h.1
 cases hi:fR k ak 0 with
 | none =>
  have t:=adJ hi;have A:¬(l.any λp=>decide (p.1=k))=true:=by rw[List.any_eq_true];rintro ⟨p,hp,e⟩;obtain⟨j,hj,rfl⟩:=List.mem_iff_getElem.1 hp;have:=(h.2 j af hj).1;exact t _ (bS (show j<ak.length by omega)) (this.trans KW)
  unfold nV rM;rw[hi,if_neg A];refine⟨by simp[B],λj F h4=>?_⟩;by_cases hj:j<l.length
  ·rw[List.getElem_append_left (show j<ak.length by omega),List.getElem_append_left hj];exact h.2 j _ _
  ·have e:j=l.length:=by simp at h4;omega
   subst e;rw[List.getElem_append_right af,List.getElem_append_right af];simpa [B]using hm
 | some x =>
  obtain⟨i,G⟩:=x;obtain⟨-,t⟩:=Ul hi;rw[Nat.sub_zero]at t;obtain⟨D,t⟩:=List.getElem?_eq_some_iff.1 t;have y:i<l.length:=af;have hk:l[i].1=k:=by rw[<- (h.2 i D y).1,t]
  have A:(l.any λp=>decide (p.1=k))=true:=by rw[List.any_eq_true];exact⟨l[i],bS y,sE⟩
  unfold nV rM;rw[hi,if_pos A];refine⟨by simp[B],λj F h4=>?_⟩;have hj:j<l.length:=Ic;rw[List.getElem_modify,List.getElem_map];by_cases e:i=j
  ·subst e;rw[if_pos rfl,if_pos hk,t];exact⟨rfl,hm⟩
  ·have E:l[j].1≠k:=λC=>e (by
    have:=List.nodup_iff_pairwise_ne.1 hn;rw[List.pairwise_iff_getElem]at this;rcases Nat.lt_trichotomy i j with u|u|u
    ·have g:=this i j (by simpa using y) Dm u;simp[hk,C]at g
    ·exact u
    ·have g:=this j i Dm (by simpa using y) u;simp[hk,C]at g)
   rw[if_neg e,if_neg E];exact h.2 j _ _
theorem bA.report{M p B w w'}(h:bA M p B w){k m v}(hm:ei encI w' p.gr (rM p.kr k v))(hg:w.grownBy w' (some p.gr))(hn:(B.bQ.map (·.1)).Nodup)(C:Fx M (λW=>lF m v W) w):bA M { p with kr:=rM p.kr k v } { B with bQ:=nV B.bQ k m } w':=by
 obtain⟨A,G,E,D,F⟩:=h.apart;have u:ag (λk=>k=p.gr) w w':=ag.eM hg λk e=>aG
 have t:=u.more λk hk=>h.sub k (hk ▸ .inr (.inl rfl))
 refine⟨h.blk.aX u A,h.lg.aX u λk hk e=>D (e▸hk),hm,h.wm.aX u λe=>h.ne e.symm,λW y=>?_,h.sub,λk hk=>bz (h.low k hk) u.size,h.ne⟩;have j:=h.bI W (t.tr y);exact⟨j.par,j.ai,j.list,j.prom,j.ab,j.aB,j.fe,j.waits,j.bQ.put hn (C W (t.tr y))⟩
theorem asl{M p B w}(h:bA M p B w) k{m v}(hn:(B.bQ.map (·.1)).Nodup)(y:Fx M (λW=>lF m v W) w) :
 ∃w',(Instr.mapUpdate 159 (.map (some p.gr)) (.int .i64 k) v).run prog w=.ok () w'/\bA M { p with kr:=rM p.kr k v } { B with bQ:=nV B.bQ k m } w'/\ag (λk=>k=p.gr) w w':=by
 obtain⟨w',t,u,j⟩:=Fh (DX (P:=prog) (kt:=3) underlying3) underlying159 h.rep k v
 exact⟨w',t,h.report u j hn y,ag.eM j λk e=>aG⟩
section
variable {P:Program} {Q:Exit->Act->World->Prop}
theorem IE.aAm{ops G C B y Le t z} E(hpl:uI ops E=true)
 (hg:∀W W',C W->Below W.heap.size W W'->C W') (hg0:∀W W',B W->Below W.heap.size W W'->B W') (hg1:∀W W',y W->Below W.heap.size W W'->y W')
 (st:∀f∈t,∀v w w',f v w->Below w.heap.size w w'->f v w') (st2:∀j,j≠z->pS E z E.length j=false->∀v w w',tab t j v w->Le w w'->tab t j v w') :
 ∀(l:List Oper) (k:Nat) (F:List (List Nat×List (Nat×Nat))),IE P G C B y Le (tab t) z k l F->Lu P ops G (Lv C B y t z) k l F:=by
 intro l
 induction l with
 | nil=>intro k F _;exact trivial
 | cons o r Y =>
  intro k F h
  cases F with
  | nil=>exact False.elim h
  | cons x xs =>
   refine⟨?_,Y _ _ h.2⟩;intro L V w H U S ⟨N,M,hp⟩;by_cases J:k=z
   ·subst J;have u:=h.1;rw[if_pos rfl]at u;obtain⟨Z,u⟩:=u;rw[H]at M;simp only[Bool.false_eq_true,if_false]at M;have u:=u V w N M λj A=>hp j (S j A)
    have next:∀v w',tab t k v w'->C w'->y w'->Le w w'->Lv C B y t k (upd L k) (ba V k v) w':=by
     intro v w' I O X hb;have hkk:upd L k k=true:=by simp[upd]
     refine⟨O,aG,λj A=>?_⟩;unfold ba;by_cases D:j=k
     ·grind
     ·rw[if_neg D];have Q:=(xS A).resolve_left D;refine st2 j D ?_ _ _ _ (hp j Q) hb;cases hf:pS E k E.length j with
      | false=>rfl
      | true=>rw[Hu hpl U _ _ hf Q]at H;cases H
    rw[Z,if_pos (show bP V none=true from rfl)];generalize (execOp (aE x.2 G V) (aF o.op o.type)).run P w=q at *;cases q with
    | ok n w' =>
     cases n <;> simp only[QR]at u <;> simp only[jM]
     case value v=>exact next _ _ u.1 u.2.1 u.2.2.1 u.2.2.2
     case skip=>exact next _ _ u.1 u.2.1 u.2.2.1 u.2.2.2
     case enter f args =>
      apply lQ u
      rintro v T⟨I,O,X,hb⟩
      grind
    | halt x w'=>simp only[QR]at u
   ·have u:=h.1;rw[if_neg J]at u;have u:=u V w N λj A=>hp j (S j A)
    have next:∀v w',tab t k v w'->Below w.heap.size w w'->Lv C B y t z (upd L k) (ba V k v) w':=by
     intro v w' I hb;have hzz:upd L k z=L z:=by simp[upd,Ne.symm J]
     refine⟨hg _ _ N hb,?_,λj A=>?_⟩
     ·grind
     ·unfold ba;by_cases D:j=k
      ·grind
      ·rw[if_neg D];exact TY (Le:=λw w'=>Below w.heap.size w w') st _ _ _ _ (hp j ((xS A).resolve_left D)) hb
    by_cases R:bP V o.guard=true
    ·rw[if_pos R]at u⊢;generalize (execOp (aE x.2 G V) (aF o.op o.type)).run P w=q at *;cases q with
     | ok n w' =>
      cases n <;> simp only[cN]at u <;> simp only[jM]
      case value v=>exact next _ _ u.1 u.2
      case skip=>exact next _ _ u.1 u.2
      case enter f args =>
       apply lQ u
       rintro v T⟨I,hb⟩
       grind
     | halt x w'=>simp only[cN]at u
    ·rw[if_neg R]at u⊢;exact next _ _ u (cM _ _)
end
section
variable {P:Program} {Q:Exit->Act->World->Prop}
theorem jM.imp{R t}(h:∀v w,R v w->t v w){q}(j:jM P R q):jM P t q:=by
 cases q with
 | ok n w' =>
  cases n <;> simp only[jM]at j⊢
  case value v=>exact h _ _ j
  case skip=>exact h _ _ j
  case enter f args =>
   apply lQ j
   intro v y u
   grind
 | halt x w'=>simp only[jM]at j
end
section
variable {P:Program} {Q:Exit->Act->World->Prop}
def ayZ(P:Program)(t:Act)(C u:World->Prop)(F:(Nat->Bool)->(Nat->Value)->World->Prop)(φ:Nat->Value->World->Prop)(k:Nat)(op:Op)(ty:TypeId)(gd:Option (Nat×Bool))(al:List Nat)(rd:List (Nat×Nat)):Prop :=
 gd=none/\∀(L:Nat->Bool) (V:Nat->Value) (w:World),(∀j∈al,L j=true)->C w->u w->(∀j,L j=true->φ j (V j) w)->jM P (λv w'=>F (upd L k) (ba V k v) w') ((execOp (aE rd t V) (aF op ty)).run P w)
def ay0(P:Program)(t:Act)(F:(Nat->Bool)->(Nat->Value)->World->Prop)(k:Nat)(op:Op)(ty:TypeId)(gd:Option (Nat×Bool))(al:List Nat)(rd:List (Nat×Nat)):Prop :=
 gd=none/\∀(L:Nat->Bool) (V:Nat->Value) (w:World),L k=false->(∀j∈al,L j=true)->F L V w->jM P (λv w'=>F (upd L k) (ba V k v) w') ((execOp (aE rd t V) (aF op ty)).run P w)
def IK(P:Program)(j:Act)(C B t:World->Prop)(Le:World->World->Prop)(F:(Nat->Bool)->(Nat->Value)->World->Prop)(φ:Nat->Value->World->Prop)(z y:Nat)(A u:List Nat):Nat->List Oper->List (List Nat×List (Nat×Nat))->Prop
 | _,[],_=>True
 | _,_ :: _,[]=>False
 | k,o :: r,x :: xs=>(if k=y then ayZ P j C t F φ k o.op o.type o.guard x.1 x.2 else (if A.contains k=true then True else ay0 P j F k o.op o.type o.guard x.1 x.2)/\(if u.contains k=true then True else IE P j C B t Le φ z k [o] [x]))/\IK P j C B t Le F φ z y A u (k+1) r xs
def yi(C u j:World->Prop)(t:List (Value->World->Prop))(z y:Nat)(F:(Nat->Bool)->(Nat->Value)->World->Prop)(L:Nat->Bool)(V:Nat->Value)(w:World):Prop:=if L y=true then F L V w else Lv C u j t z L V w
theorem IK.toP{ops X C G E Le F t z y M O} u(hpl:uI ops u=true)
 (hb:∀k∈M,pS u k u.length y=true) (ha:∀k∈O,pS u y u.length k=true) (hz:z∈M) (hzy:z≠y)
 (hg:∀W W',C W->Below W.heap.size W W'->C W') (hg0:∀W W',G W->Below W.heap.size W W'->G W') (hg1:∀W W',E W->Below W.heap.size W W'->E W')
 (st:∀f∈t,∀v w w',f v w->Below w.heap.size w w'->f v w') (st2:∀j,j≠z->pS u z u.length j=false->∀v w w',tab t j v w->Le w w'->tab t j v w') :
 ∀(l:List Oper) (k:Nat) (H:List (List Nat×List (Nat×Nat))),(∀i,ops[k+i]?=l[i]?)->(∀i,u[k+i]?=H[i]?) ->
  IK P X C G E Le F (tab t) z y M O k l H->Lu P ops X (yi C G E t z y F) k l H:=by
 intro l
 induction l with
 | nil=>intro k H _ _ _;exact trivial
 | cons o r ih =>
  intro k H ho Y h
  cases H with
  | nil=>exact False.elim h
  | cons x xs =>
   have hxk:u[k]?=some x:=Y 0;refine⟨?_,ih _ _ (λi=>by have:=ho (i+1);simpa [Nat.add_assoc,Nat.add_comm 1 i]using this) (λi=>by have:=Y (i+1);simpa [Nat.add_assoc,Nat.add_comm 1 i]using this) h.2⟩;have before:∀ {L:Nat->Bool} {j:Nat},Closed ops L->(∀i∈x.1,L i=true)->pS u j u.length k=true->L j=true:=by
    intro L j J I D
    cases hn:u.length with
    | zero=>rw[hn]at D;cases D
    | succ n =>
     rw[hn]at D;unfold pS at D;rw[hxk]at D;simp only[Bool.or_eq_true,List.contains_iff_mem,List.any_eq_true]at D;rcases D with D|⟨i,hi,D⟩
     ·grind
     ·grind [Hu]
   intro L V w N J I B;by_cases Q:k=y
   ·subst Q;have A:=h.1;rw[if_pos rfl]at A;obtain⟨T,A⟩:=A;unfold yi at B;rw[N]at B;simp only[Bool.false_eq_true,if_false]at B;obtain⟨hc,hd,hp⟩:=B;have hLz:=before J I (hb z hz);rw[if_pos hLz]at hd;have A:=A L V w I hc hd hp;rw[T,if_pos (show bP V none=true from rfl)];have hkk:upd L k k=true:=by simp[upd]
    refine jM.imp ?_ A;intro v w' h9;unfold yi;rw[if_pos hkk];exact h9
   ·have A:=h.1;rw[if_neg Q]at A;obtain⟨S,R⟩:=A;cases JX:L y with
    | true =>
     have sQ:M.contains k=false:=by
      cases hc:M.contains k with
      | false=>rfl
      | true => have:=Hu hpl J _ _ (hb k Il) JX;rw[N]at this;cases this
     rw[sQ]at S;simp only[Bool.false_eq_true,if_false]at S;obtain⟨T,A⟩:=S;unfold yi at B;rw[if_pos JX]at B;have A:=A L V w N I B;rw[T,if_pos (show bP V none=true from rfl)];have U:upd L k y=true:=by simp[upd,JX]
     refine jM.imp ?_ A;intro v w' h9;unfold yi;rw[if_pos U];exact h9
    | false =>
     have hna:O.contains k=false:=by
      cases hc:O.contains k with
      | false=>rfl
      | true => have:=before J I (ha k Il);rw[JX]at this;cases this
     rw[hna]at R;simp only[Bool.false_eq_true,if_false]at R;have e:=(IE.aAm u hpl hg hg0 hg1 st st2 [o] k [x] R).1;unfold yi at B;rw[JX]at B;simp only[Bool.false_eq_true,if_false]at B;have e:=e L V w N J I B;have U:upd L k y=false:=by simp[upd,Ne.symm Q,JX]
     have key:∀v w',Lv C G E t z (upd L k) (ba V k v) w'->yi C G E t z y F (upd L k) (ba V k v) w':=by intro v w' h9;unfold yi;rw[U];simpa using h9
     by_cases Z:bP V o.guard=true
     ·rw[if_pos Z]at e⊢;exact jM.imp key e
     ·rw[if_neg Z]at e⊢;exact key _ _ e
theorem aok{id ops B w} z y D G C u A Le F l t
 n (hn:B.tmps.size=n) (hm:P.follows .mixedOrders=true) (J:sC ops n=true) (I:uI ops t=true) (X:D.contains z=true) (N:z≠y) (R:y<ops.size)
 (Y:D.all (λk=>pS t k t.length y)=true) (M:G.all (λk=>pS t y t.length k)=true)
 (hg:∀W W',C W->Below W.heap.size W W'->C W') (T:∀W W',u W->Below W.heap.size W W'->u W') (U:∀W W',A W->Below W.heap.size W W'->A W') (S:C w.drew) (hD:u w.drew)
 (st:∀f∈l,∀v w w',f v w->Below w.heap.size w w'->f v w') (st2:∀x∈l.zipIdx,(x.2==z||pS t z t.length x.2)=true∨∀v w w',x.1 v w->Le w w'->x.1 v w')
 (O:IK P B C u A Le F (tab l) z y D G 0 ops.toList t)
 (fin:∀(V:Nat->Value) (w:World),F (λj=>decide (j<ops.size)) V w->Q .normal (fX V ops.toList 0 B) w) :
 (Code.region id ops true).wp P Q B w:=by
 have L:∀j,j≠z->pS t z t.length j=false->∀v w w',tab l j v w->Le w w'->tab l j v w':=by
  intro j Z hf v w w' H hm
  unfold tab at *
  cases hj:l[j]? with
  | none=>simp[List.getD_eq_getElem?_getD,hj]
  | some f =>
   simp only[List.getD_eq_getElem?_getD,hj,Option.getD_some]at H⊢;rcases st2 (f,j) (List.mem_zipIdx_iff_getElem?.2 hj)with E|E
   ·grind
   ·exact E v w w' H hm
 refine Tz (yi C u A l z y F) n hn hm J ?_ (asA t I (IK.toP t I (λk hk=>List.all_eq_true.1 Y k hk) (λk hk=>List.all_eq_true.1 M k hk) (by simpa using X) N hg T U st L _ _ _ (λi=>aj) (λi=>aj) O)) λV w h=>fin V w ?_
 ·unfold yi;simp only[Bool.false_eq_true,if_false];exact⟨S,mh,λ_ h=>wR⟩
 ·unfold yi at h;simpa [R]using h
end
def RW(gw g:Nat)(n:Int)(l:List UInt8)(wr j:Bool)(W:World):Prop:=ah W gw 264 #[.pointer (some ⟨g,0,none⟩),.int .i64 n,.bool j]/\Rd W g l wr/\g<gw
abbrev XW(gw g:Nat):Nat->Prop:=λk=>k=g∨k=gw
section
variable {gw g:Nat} {n:Int} {l l':List UInt8} {wr bd wr' JY:Bool} {W W':World} {X:Nat->Prop}
theorem RW.st(h:RW gw g n l wr bd W)(k:K W W'):RW gw g n l wr bd W':=⟨h.1.av k,h.2.1.av k,h.2.2⟩
theorem RW.lt(h:RW gw g n l wr bd W):gw<W.heap.size:=h.1.lt
theorem ag.went(H:nD g l' wr' W W')(j:X g):ag X W W':=ag.eM H.2 (by rintro k e;cases e;exact j)
theorem RW.went(h:RW gw g n l wr bd W)(H:nD g l' wr' W W'):RW gw g n l' wr' bd W':=⟨h.1.went H (by have:=h.2.2;omega),H.1,h.2.2⟩
theorem RW.bad(h:RW gw g n l wr bd W):RW gw g n l wr true (W.setCell ⟨gw,2,none⟩ (.bool true)) :=
 ⟨h.1.aM 2 _,h.2.1.set h.2.2 2 _,h.2.2⟩
theorem RW.far(h:RW gw g n l wr bd W){b}(hb:gw<b) i u:RW gw g n l wr bd (W.setCell ⟨b,i,none⟩ u) :=
 ⟨h.1.far aY u,h.2.1.set (by have:=h.2.2;omega) i u,h.2.2⟩
end
theorem Hn gw g n l wr y(j:Nat) w(h:RW gw g n l wr y w)(_:j<18446744073709551616) :
 Calls prog 191 #[.pointer (some ⟨gw,0,none⟩),.int .u64 j] w λe w' =>
  e=.returned (.int .u64 ((lu j l wr y).1:Int))/\RW gw g n (lu j l wr y).2.1 (lu j l wr y).2.2.1 (lu j l wr y).2.2.2 w'/\ag (XW gw g) w w':=by
 have A:=ae (sA g l wr w h.2.1)
 unfold lu
 generalize ax l wr=a at *
 obtain⟨x,F,G⟩:=a
 simp only at A⊢
 have q:=h.1.cell
 by_cases C:x<j
 ·have D:¬(j:Int)<=x:=af;rw[if_pos C];simp only;go_enter func191,ntmps191;go_wp2_with fail
  refine A.aa.mono ?_;rintro e E⟨rfl,u⟩;have t:=h.went u;have B:=ag.went (X:=XW gw g) u (.inl rfl);clear q;go_wp2;go_ret;exact⟨rfl,t,B⟩
 ·have D:(j:Int)<=x:=af;rw[if_neg C];simp only;go_enter func191,ntmps191;go_wp2_with fail
  refine A.aa.mono ?_;rintro e E⟨rfl,u⟩;have t:=h.went u;have B:=ag.went (X:=XW gw g) u (.inl rfl);have q:=t.1.cell;have z:=t.1.frozen;go_wp2;go_ret;exact⟨rfl,t.bad,B.tr (ag.bL (X:=XW gw g) (.inr rfl) 2 _)⟩
theorem abt gw g n l wr t w(h:RW gw g n l wr t w) :
 Calls prog 198 #[.pointer (some ⟨gw,0,none⟩)] w λe w' =>
  e=.returned (.agg (df (iD l wr t).1))/\RW gw g n (iD l wr t).2.1 (iD l wr t).2.2.1 (iD l wr t).2.2.2 w'/\ag (XW gw g) w w':=by
 have u:=λW hW=>Hn gw g n l wr t 16 W hW af
 have hlt:=zy 16 af l wr t
 unfold iD DR lN BX
 generalize lu 16 l wr t=a at *
 obtain⟨x,Q,eP,fg⟩:=a
 simp only at u hlt⊢
 have A:=sA g Q eP
 generalize ax Q eP=a at *
 obtain⟨y,l2,wr2⟩:=a
 simp only at A⊢
 have D:=sA g l2 wr2
 generalize ax l2 wr2=a at *
 obtain⟨z,l3,Ca⟩:=a
 simp only at D⊢
 rw[show ((16:Nat):Int)=16 from rfl]at u
 replace u:=ae u
 replace A:=ae A
 replace D:=ae D
 have hwx:IntKind.i64.wrap (x:Int)=x:=Lf
 have M:=ah.new w 26 #[.int .i64 0,.int .u64 0,.int .u64 0]
 have R:=h.st ((K.rf w).al (.cells #[.int .i64 0,.int .u64 0,.int .u64 0] 26))
 have u0:=ag.al (XW gw g) w (.cells #[.int .i64 0,.int .u64 0,.int .u64 0] 26)
 have O:=h.lt
 have hgg:=h.2.2
 clear h
 go_enter func198,ntmps198
 go_wp2_with fail
 generalize w.alloc _=w1 at *
 refine (u.aa w1 R).mono ?_
 rintro e E⟨rfl,h2,F⟩
 have hz1:=M.lt
 have aW:=M.aX F BB
 have V:=u0.tr F
 have hz2:=F.size
 have eO:=ah.new E 26 #[.int .i64 x,.int .u64 0,.int .u64 0]
 have dI:=aW.alloc (.cells #[.int .i64 x,.int .u64 0,.int .u64 0] 26)
 have I:=h2.st ((K.rf E).al (.cells #[.int .i64 x,.int .u64 0,.int .u64 0] 26))
 have S:=V.tr (ag.al (XW gw g) E (.cells #[.int .i64 x,.int .u64 0,.int .u64 0] 26))
 clear R M u0 aW h2 F V u
 go_upto_region 2 with (fail)
 generalize E.alloc _=w3 at *
 generalize E.heap.size=j at *
 have q:=I.1.cell
 go_wp2_with fail
 refine (A.aa w3 I.2.1).mono ?_
 rintro e Z⟨rfl,B⟩
 have h4:=I.went B
 have ey:=dI.went B af
 have H:=eO.went B af
 have u04:=S.tr (ag.went (X:=XW gw g) B (.inl rfl))
 clear q I dI eO S B A
 have q:=H.cell
 have J:=H.frozen
 go_upto_region 3 with (fail)
 have Y:ah (Z.setCell ⟨j,1,none⟩ (.int .u64 y)) j 26 #[.int .i64 x,.int .u64 y,.int .u64 0]:=H.aM 1 _
 have L:=h4.far (b:=j) af 1 (.int .u64 y)
 have T:=ey.far (p:=⟨j,1,none⟩) aY (.int .u64 y)
 have u05:=u04.fresh (b:=j) af 1 (.int .u64 y)
 clear q J H h4 ey u04
 generalize Z.setCell _ _=w5 at *
 have q:=L.1.cell
 go_wp2_with fail
 refine (D.aa w5 L.2.1).mono ?_
 rintro e U⟨rfl,C⟩
 have h6:=L.went C
 have ng:=T.went C af
 have G:=Y.went C af
 have u06:=u05.tr (ag.went (X:=XW gw g) C (.inl rfl))
 clear q L T Y u05 C D
 have q:=G.cell
 have J:=G.frozen
 go_upto_region 4 with (fail)
 have oA:ah (U.setCell ⟨j,2,none⟩ (.int .u64 z)) j 26 #[.int .i64 x,.int .u64 y,.int .u64 z]:=G.aM 2 _
 have h7:=h6.far (b:=j) af 2 (.int .u64 z)
 have N:=ng.far (p:=⟨j,2,none⟩) aY (.int .u64 z)
 have u07:=u06.fresh (b:=j) af 2 (.int .u64 z)
 clear q J G h6 ng u06
 generalize U.setCell _ _=w7 at *
 have q:=oA.cell
 have y1:=N.cell
 have J:=N.frozen
 go_wp2
 have cO:=((N.aM 0 (.int .i64 x)).aM 1 (.int .u64 y)).aM 2 (.int .u64 z)
 have h9:=((h7.far (b:=w.heap.size) O 0 (.int .i64 x)).far (b:=w.heap.size) O 1 (.int .u64 y)).far (b:=w.heap.size) O 2 (.int .u64 z)
 have u09:=((u07.fresh (b:=w.heap.size) (aC _) 0 (.int .i64 x)).fresh (b:=w.heap.size) (aC _) 1 (.int .u64 y)).fresh (b:=w.heap.size) (aC _) 2 (.int .u64 z)
 have e9:=cO.cell
 refine bodyPost_ret (v:=.agg #[.int .i64 x,.int .u64 y,.int .u64 z]) (by simp[results,results198,go_sem,e9]) rfl ?_
 exact⟨rfl,h9,u09⟩
theorem aol gw g n l wr A w(h:RW gw g n l wr A w) :
 Calls prog 194 #[.pointer (some ⟨gw,0,none⟩)] w λe w' =>
  e=.returned (.agg (gJ (mY l wr A).1))/\RW gw g n (mY l wr A).2.1 (mY l wr A).2.2.1 (mY l wr A).2.2.2 w'/\ag (XW gw g) w w':=by
 have C:=λW Q=>abt gw g n l wr A W Q
 unfold mY DR lN
 generalize iD l wr A=a at *
 obtain⟨x,J,O,N⟩:=a
 simp only at C⊢
 have B:=λW Q=>Hn gw g n J O N 2 W Q af
 have hlt:=zy 2 af J O N
 generalize lu 2 J O N=a at *
 obtain⟨y,l2,wr2,bd2⟩:=a
 simp only at B hlt⊢
 rw[show ((2:Nat):Int)=2 from rfl]at B
 replace C:=ae C
 replace B:=ae B
 obtain⟨b,hb⟩:∃b:Bool,b=decide (y=1):=⟨_,rfl⟩
 have hyb:((y:Int)==1)=b:=by rw[hb,Bool.eq_iff_iff];simp;omega
 rw[<- hb]
 clear hb
 have M:=ah.new w 225 #[.int .i64 0,.int .u64 0,.int .u64 0,.bool false]
 have R:=h.st ((K.rf w).al (.cells #[.int .i64 0,.int .u64 0,.int .u64 0,.bool false] 225))
 have X:=ag.al (XW gw g) w (.cells #[.int .i64 0,.int .u64 0,.int .u64 0,.bool false] 225)
 have I:=h.lt
 have hgg:=h.2.2
 clear h
 obtain⟨u,t,j⟩:=x
 go_enter func194,ntmps194
 go_wp2_with fail
 generalize w.alloc _=w1 at *
 refine (C.aa w1 R).mono ?_
 rintro e E⟨rfl,Z,F⟩
 have hz1:=M.lt
 have aW:=M.aX F BB
 have T:=X.tr F
 have hz2:=F.size
 have eO:=ah.new E 225 #[.int .i64 u,.int .u64 t,.int .u64 j,.bool false]
 have dI:=aW.alloc (.cells #[.int .i64 u,.int .u64 t,.int .u64 j,.bool false] 225)
 have V:=Z.st ((K.rf E).al (.cells #[.int .i64 u,.int .u64 t,.int .u64 j,.bool false] 225))
 have S:=T.tr (ag.al (XW gw g) E (.cells #[.int .i64 u,.int .u64 t,.int .u64 j,.bool false] 225))
 clear R M X aW Z F T C
 go_upto_region 2 with (fail)
 generalize E.alloc _=w3 at *
 generalize E.heap.size=D at *
 go_wp2_with fail
 refine (B.aa w3 V).mono ?_
 rintro e U⟨rfl,h4,H⟩
 have Y:=dI.aX H BB
 have G:=eO.aX H BB
 have u04:=S.tr H
 clear V dI eO S H B
 have q:=G.cell
 have z1:=G.frozen
 go_upto_region 3 with (fail)
 have dR:ah (U.setCell ⟨D,3,none⟩ (.bool b)) D 225 #[.int .i64 u,.int .u64 t,.int .u64 j,.bool b]:=G.aM 3 _
 have h5:=h4.far (b:=D) af 3 (.bool b)
 have L:=Y.far (p:=⟨D,3,none⟩) aY (.bool b)
 have u05:=u04.fresh (b:=D) af 3 (.bool b)
 clear q z1 G h4 Y u04
 generalize U.setCell _ _=w5 at *
 have q:=dR.cell
 have y1:=L.cell
 have z1:=L.frozen
 go_wp2
 have cO:=(((L.aM 0 (.int .i64 u)).aM 1 (.int .u64 t)).aM 2 (.int .u64 j)).aM 3 (.bool b)
 have h9:=(((h5.far (b:=w.heap.size) I 0 (.int .i64 u)).far (b:=w.heap.size) I 1 (.int .u64 t)).far (b:=w.heap.size) I 2 (.int .u64 j)).far (b:=w.heap.size) I 3 (.bool b)
 have u09:=(((u05.fresh (b:=w.heap.size) (aC _) 0 (.int .i64 u)).fresh (b:=w.heap.size) (aC _) 1 (.int .u64 t)).fresh (b:=w.heap.size) (aC _) 2 (.int .u64 j)).fresh (b:=w.heap.size) (aC _) 3 (.bool b)
 have e9:=cO.cell
 refine bodyPost_ret (v:=.agg #[.int .i64 u,.int .u64 t,.int .u64 j,.bool b]) (by simp[results,results194,go_sem,e9]) rfl ?_
 exact⟨rfl,h9,u09⟩
theorem Ux{W W' b T C A n xs}(y:Reads W W.heap.size C A n xs)(hb:ah W b T eI)(G:xs=[]∨∃u∈xs,u∉eI.toList)
 (H:W.heap.size<=W'.heap.size) (hk:∀k,k<W.heap.size->k≠b->W'.heap[k]?=W.heap[k]?):Reads W' W'.heap.size C A n xs:=by
 refine⟨y.1,λF=>?_⟩
 obtain⟨g,D,e,hg,B⟩:=y.2 F
 have I:g≠b:=by
  rintro rfl;rcases G with rfl|⟨u,J,hn⟩
  ·grind
  ·obtain⟨j,t⟩:=List.mem_iff_getElem?.1 J;have E:=B j u t;rw[hb.cell]at E;grind
 refine⟨g,D,e,bz hg H,λj u t=>?_⟩
 rw[World.cell?_of_block (w:=W) (w':=W') (a:=⟨g,D+j,none⟩) (hk g hg I)]
 exact B j u t
theorem axe(l:List cT):l.flatMap mV=[]∨∃u∈l.flatMap mV,u∉eI.toList:=aim
theorem axf(l:List dt):l.flatMap fF=[]∨∃u∈l.flatMap fF,u∉eI.toList:=aim
theorem axg{W W' b T x v}(h:cV x v W)(L:∀e∈x.es,e≠[])(hb:ah W b T eI)
 (u:W.heap.size<=W'.heap.size) (hk:∀k,k<W.heap.size->k≠b->W'.heap[k]?=W.heap[k]?):cV x v W':=by
 obtain⟨vf,M,rfl,⟨A,c,rfl,I⟩,D,d,rfl,⟨css,j,F⟩,H⟩:=h
 refine⟨_,_,rfl,⟨A,c,rfl,Ux I hb (axf _) u hk⟩,D,d,rfl,⟨css,⟨j.1,λi G E=>?_⟩,Ux F hb ?_ u hk⟩,H⟩
 ·obtain⟨v,e,t,c1,rfl,y⟩:=j.2 i G E;exact⟨_,e,t,c1,rfl,Ux y hb (axe _) u hk⟩
 ·cases hes:x.es with
  | nil => refine .inl (List.eq_nil_of_length_eq_zero ?_);rw[j.FQ,hes];rfl
  | cons J es =>
   have B:0<x.es.length:=aG;have C:0<css.length:=by rw[j.1];exact B
   obtain⟨v,e,t,c1,rfl,y⟩:=j.2 0 B C;refine .inr ⟨.slice t x.es[0].length c1,List.mem_flatten.2 ⟨css[0],bS C,aG⟩,?_⟩;simp_all
theorem at8 b:∀e∈(lJ b).es,e≠[]:=by
 unfold lJ
 cases hd:iC b with
 | none=>simp[dz]
 | some x =>
  intro e j
  obtain⟨-,-,hk⟩:=Dc (T1 hd).2
  grind [lJ,fB]
def yE(gb:Nat)(x:aK)(u:Value)(W:World):Prop:=∀W',ag (λk=>k<gb) W W'->cV x u W'
theorem ain gb x:∀v w w',yE gb x v w->Below w.heap.size w w'->yE gb x v w':=by rintro v w w' h k;exact λW' u=>h W' ((ag.aT k _).tr u)
def Rm(gb:Nat)(x:aK)(c:Int)(v:Value)(W:World):Prop:=∃u,v=.tuple #[u,.int .i64 c]/\yE gb x u W
theorem axh gb x c:∀v w w',Rm gb x c v w->Below w.heap.size w w'->Rm gb x c v w':=by rintro v w w'⟨u,e,h⟩ k;exact⟨u,e,ain _ _ _ _ _ h k⟩
def Mh(gb:Nat)(T:TypeId)(v:Value)(W:World):Prop:=∃b,v=.pointer (some ⟨b,0,none⟩)/\gb<=b/\ah W b T eI
theorem axi gb T:∀v w w',Mh gb T v w->Below w.heap.size w w'->Mh gb T v w':=by rintro v w w'⟨b,e,j,t⟩ k;exact⟨b,e,j,t.av k⟩
theorem avQ{gb g T}(hg:g<gb):∀v w w',Mh gb T v w->w.grownBy w' (some g)->Mh gb T v w':=by rintro v w w'⟨b,e,j,t⟩ k;exact⟨b,e,j,t.grown k aG⟩
theorem aek{gb x u w w' b T}(h:yE gb x u w)(G:∀e∈x.es,e≠[])(hb:ah w b T eI)(hg:w.grownBy w' (some b)):yE gb x u w':=by
 intro t up;obtain⟨j,A⟩:∃j:World,j={ t with heap:=t.heap.setIfInBounds b (.cells eI T (0,0)) }:=⟨_,rfl⟩;have H:=bz hb.lt (bn hg.size up.size);have C:ah j b T eI:=by grind [ah]
 have B:∀k,k≠b->j.heap[k]?=t.heap[k]?:=by
  grind
 have E:j.heap.size=t.heap.size:=aG;have D:ag (λk=>k<gb) w j:=by
  refine⟨?_,?_,?_,by rw[E];exact bn hg.size up.size,λk hk F=>?_⟩
  ·rw[A];exact up.os.trans hg.os
  ·rw[A];exact up.tape.trans hg.tape
  ·rw[A];exact up.output.trans hg.output
  ·by_cases y:k=b
   ·subst y;exact C.trans hb.symm
   ·rw[B k y,up.block k (bz hk hg.size) F];exact hg.block k hk aG
 exact axg (h j D) G C af (λk _ y=>(B k y).symm)
theorem aqT{P ρ w} s x T ty t g o cur cells(hs:ρ s=.pointer (some ⟨g,o,none⟩))(hx:ρ x=.agg cells)(hb:ah w g t cur)
 (A:(P.info? T).map (·.size)=some cells.size) (B:o+cells.size<=cur.size) (j:∀u∈cells.toList,u.oneCell'=true) :
 ∃w',(execOp ρ (aF (.store T s x) ty)).run P w=.ok .skip w'/\ah w' g t (cur.toList.take o++cells.toList++cur.toList.drop (o+cells.size)).toArray/\w.grownBy w' (some g):=by
 have hst:=run_storeCells_at P g o t cells.toList 0 cur w hb af j
 simp only[Nat.add_zero,Array.length_toList]at hst
 refine⟨_,?_,setRow_heap w g cur _ t _ hb,⟨rfl,rfl,rfl,aj,λk hk y=>setRow_other w g k _ (λe=>y tB)⟩⟩
 cases hq:P.info? T with
 | none=>simp[hq]at A
 | some i => exact agT
theorem aoe gw g n l wr t w(h:RW gw g n l wr t w)(hl:l.length<=1000000000)(hn0:0<=n)(dA:n<=1000000000) :
 Calls prog 196 #[.pointer (some ⟨gw,0,none⟩)] w λe w' =>
  ∃v,e=.returned v/\yE w.heap.size (iP n l wr t).1 v w'/\RW gw g n (iP n l wr t).2.1 (iP n l wr t).2.2.1 (iP n l wr t).2.2.2 w'/\ag (XW gw g) w w':=by
 have C1:=λW (hW:Rd W g l wr)=>Ku g l wr n W hW hl af af
 have Bg:=Hy n l wr
 unfold iP
 generalize aL n l wr=a at *
 obtain⟨bs,l1,eP⟩:=a
 simp only at C1 Bg⊢
 have hne:=at8 bs
 have C2:=λW v (hv:sl bs v W)=>TC bs v W hv af
 obtain⟨j,FJ⟩:∃j,j=xY bs:=⟨_,rfl⟩
 obtain⟨x,M⟩:∃x,x=lJ bs:=⟨_,rfl⟩
 have HC:Hid (j=0/\(t||(iC bs).isNone)=t∨j=110/\(t||(iC bs).isNone)=true):=ae (by
  rw[FJ];unfold xY;cases iC bs <;> simp)
 simp only[<- FJ,<- M]at C2 hne⊢
 clear FJ M
 generalize (t||(iC bs).isNone)=bd9 at *
 have C1:=ae C1
 have C2:=ae C2
 have HN:=ae hne
 clear hne
 have cS:=ah.new w 126 eI
 have h0:=h.st ((K.rf w).al (.cells eI 126))
 have u0:=ag.al (XW gw g) w (.cells eI 126)
 have cP:=h.lt
 have hgg:=h.2.2
 clear h
 go_enter func196,ntmps196
 go_upto_region 1 with (fail)
 generalize w.alloc _=w1 at *
 obtain⟨gb,hgb⟩:∃gb,gb=w1.heap.size:=⟨_,rfl⟩
 have My:w.heap.size<gb:=by rw[hgb];exact cS.lt
 obtain⟨C,N⟩:∃C:World->Prop,C=λW=>ag (XW gw g) w W/\gb<=W.heap.size/\ah W w.heap.size 126 eI/\ah W gw 264 #[.pointer (some ⟨g,0,none⟩),.int .i64 n,.bool t]:=⟨_,rfl⟩
 have hg:∀W W',C W->Below W.heap.size W W'->C W':=by subst N;rintro W W'⟨B,U,h3,h4⟩ hb;exact⟨B.tr (ag.aT hb _),bn U hb.size,h3.av hb,h4.av hb⟩
 have hc0:C w1:=by rw[N];exact⟨u0,by omega,cS,h0.1⟩
 obtain⟨F,Y⟩:∃F:(Nat->Bool)->(Nat->Value)->World->Prop,F=λL V W=>C W/\RW gw g n l1 eP t W/\(∃u,V 10=.tuple #[u,.int .i64 j])/\(L 12=true->V 12=.int .i64 j)/\(L 15=true->V 15=.int .i64 j) /\
  ∃b vf J,V 13=.pointer (some ⟨b,0,none⟩)/\gb<=b/\ah W b 126 (aD x vf J)/\yE gb x (.agg (aD x vf J)) W:=⟨_,rfl⟩
 refine aok 8 14 [0,1,2,3,4,5,6,7,8,9,10,11,13] [15] C (λW=>RW gw g n l wr t W) (λW=>RW gw g n l1 eP t W) (λW W'=>W.grownBy W' (some g)) F [aJ (.pointer (some ⟨gw,0,none⟩)),
  aJ (.pointer (some ⟨gw,0,none⟩)),
  aJ (.pointer (some ⟨gw,0,none⟩)),
  aJ (.pointer (some ⟨g,0,none⟩)),
  aJ (.pointer (some ⟨gw,0,none⟩)),
  aJ (.pointer (some ⟨gw,0,none⟩)),
  aJ (.pointer (some ⟨gw,1,none⟩)),
  aJ (.int .i64 n),
  sl bs,
  Rm gb x j,
  Rm gb x j,
  yE gb x,
  aJ (.int .i64 j),
  Mh gb 126,
  QS,
  aJ (.int .i64 j)]
  [([],[]),([0],[(6,0)]),([1],[(7,1)]),([2],[(8,2)]),([],[]),([4],[(10,4)]),([5],[(11,5)]),([6],[(12,6)]),([3,7],[(9,3),(13,7)]),([8],[(14,8)]),([9],[(15,9)]),([10],[(5,10)]),([10],[(5,10)]),([],[]),([10,13,11],[(3,13),(16,11)]),([12,14],[(17,12)])] 24 rfl fk fk fk ay ay ay fk fk hg (λW W' h k=>h.st k) (λW W' h k=>h.st k) (by exact hg _ _ hc0 (Below.drew (cM _ _))) (h0.st (Below.drew (cM _ _))) ?st ?st2 ?ow ?_
 case st =>
  simp only[cd]
  and_intros
  all_goals first|exact axM _|exact awa|exact nC _|exact axh _ _ _|exact ain _ _|exact axi _ _|simp
 case st2 =>
  simp only[List.zipIdx_cons,List.zipIdx_nil,cd,mi,Nat.reduceAdd]
  and_intros
  all_goals first|exact .inl rfl|exact .inr (λ_ _ _ h _=>h)|exact .inr (avQ af)|simp
 case ow =>
  simp only[IK,IE,List.contains_cons,List.contains_nil,Nat.reduceBEq,Bool.or_false,Bool.or_true,Bool.false_eq_true,if_true,if_false,Nat.reduceEqDiff,Nat.reduceAdd,and_true,true_and]
  and_intros
  all_goals try trivial
  all_goals
   first
   | (intro V w' A hp
      rw[N]at A
      obtain⟨G,R,E,dQ⟩:=A
      have q:=dQ.cell
      try simp only[cd,bW,bY,aJ]at hp
      try (simp[bP,aE,List.lookup,hp,bW,bY,cN,execOp,aF,aJ,undef,cM,q,go_sem];done))
   | skip
  ·have hD:=hp;intro hp2;simp only[cd,bW,bY,aJ]at hp2;simp[aE,List.lookup,hp2,bW,bY,QR,execOp,aF,go_sem];refine (C1.aa w' hD.2.1).mono ?_;rintro e w2⟨v,rfl,nH,S⟩;refine⟨v,rfl,nH,?_,hD.went S,S.2⟩;rw[N];exact⟨G.tr (ag.went S (.inl rfl)),bn R S.2.size,E.went S af,dQ.went S af⟩
  ·simp[bP,aE,List.lookup,bW,bY,cN,execOp,aF,go_sem];refine (C2.aa w' (V 8) hp.1).mono ?_;rintro e w2⟨v,rfl,Q,k⟩;exact⟨_,rfl,⟨v,rfl,λW' u=>Q W' (u.qZ (λk B _ _ M=>af))⟩,k⟩
  ·obtain⟨⟨u,e9,B⟩,-⟩:=hp;simp[e9,bP,aE,List.lookup,bW,bY,cN,execOp,aF,go_sem];exact⟨B,cM _ _⟩
  ·intro L V w' p8 T Z;rw[Y]at Z⊢;obtain⟨A,D,⟨u,e9⟩,-,GX,hrest⟩:=Z;generalize hA:aE [(5,10)] _ V=I;have e5:I (.tmp 5)=.tuple #[u,.int .i64 j]:=by rw[<- hA];exact e9
   have hrun:(execOp I (aF (.extract (.tmp 5) 1) 29)).run prog w'=.ok (.value (.int .i64 j)) w':=by simp[e5,execOp,aF,go_sem]
   rw[hrun];refine⟨A,D,⟨u,mh⟩,λ_=>fk,λh=>?_,?_⟩
   ·have:=GX mh;simpa [ba]using this
   ·assumption
  ·obtain⟨⟨u,e9,B⟩,-⟩:=hp;simp[e9,bP,aE,List.lookup,bW,bY,cN,execOp,aF,aJ,cM,go_sem]
  ·simp[bP,bW,bY,cN,execOp,aF,go_sem];exact⟨⟨w'.heap.size,rfl,R,ah.new _ _ _⟩,(K.rf w').al _⟩
  ·intro L V w' T A D hp;have hd':=D;have f10:=hp 10 (T 10 aj);have f11:=hp 11 (T 11 aj);have f13:=hp 13 (T 13 aj);have f12:=hp 12;have f15:=hp 15;simp only[bW,bY,aJ]at f10 f11 f13 f12 f15;obtain⟨u10,fD,-⟩:=f10;obtain⟨b,y7,ox,hblk⟩:=f13;obtain⟨vf,J,pr,hf,Q⟩:=f11 w' (ag.rf _ _);rw[pr]at f11;generalize hA:aE [(3,13),(16,11)] _ V=I;have es4:I (.tmp 3)=.pointer (some ⟨b,0,none⟩):=by rw[<- hA];exact y7
   have ex4:I (.tmp 16)=.agg (aD x vf J):=by rw[<- hA];exact pr
   obtain⟨w'',hrun,hb2,y⟩:=aqT (P:=prog) (ρ:=I) (.tmp 3) (.tmp 16) 126 0 126 b 0 eI (aD x vf J) es4 ex4 hblk fk aj (aU.one (x:=x) (w:=w') ⟨vf,J,rfl,hf,Q⟩);rw[hrun];rw[N]at A;obtain⟨G,R,E,dQ⟩:=A;have H:Below gb w' w'':=⟨y.os,y.tape,y.output,y.size,λi hi=>y.block i (bz hi R) aG⟩;show F _ _ w'';rw[Y];refine⟨?_,⟨hd'.1.below H af,hd'.2.1.below H af,hd'.2.2⟩,⟨u10,mh⟩,λh=>?_,λh=>?_,b,vf,J,mh,ox,hb2,aek f11 HN.aa hblk y⟩
   ·rw[N];exact⟨⟨y.os.trans G.os,y.tape.trans G.tape,y.output.trans G.output,bn G.size y.size,λk hk M=>(H.block k af).trans (G.block k hk M)⟩,bn R y.size,E.below H af,dQ.below H af⟩
   ·have:=f12 mh;simpa [ba]using this
   ·have:=f15 mh;simpa [ba]using this
  ·intro L V w' p8 T Z;rw[Y]at Z⊢;obtain⟨A,D,Q,h12,-,hrest⟩:=Z;have Cs:=h12 (T 12 aj);generalize hA:aE [(17,12)] _ V=I;have e5:I (.tmp 17)=.int .i64 j:=by rw[<- hA];exact Cs
   have hrun:(execOp I (aF (.assign (.tmp 17)) 29)).run prog w'=.ok (.value (.int .i64 j)) w':=by simp[e5,execOp,aF,go_sem]
   rw[hrun];refine⟨A,D,mh,λ_=>mh,λ_=>fk,mh⟩
 intro V W NH
 rw[Y]at NH
 obtain⟨A,D,-,-,GX,b,vf,J,y7,ox,hblk,Ed⟩:=NH
 have qA:=GX ay
 rw[N]at A
 obtain⟨G,R,E,-⟩:=A
 obtain⟨jN,Eo,e9,hf,Q⟩:=Ed W (ag.rf _ _)
 obtain⟨rfl,rfl⟩:vf=jN/\J=Eo:=by
  grind
 obtain⟨A9,c9,rfl⟩:=b6 hf
 obtain⟨D9,d9,rfl⟩:=aw Q
 have kU:=ae Ed
 clear Y N hg hc0 Ed hf Q e9 GX h0 u0 cS C1 C2
 simp only[fX,Act.put,rJ,qM,qL,y7,qA]
 have aEp:w.heap.size<b:=af
 have fin:∀(W1:World) (fg:Bool),ag (XW gw g) w W1->ah W1 w.heap.size 126 eI->RW gw g n l1 eP fg W1->yE w.heap.size x (.agg (aD x (.slice A9 x.f.length c9) (.slice D9 x.es.length d9))) W1 ->
  ∃O,O=dV W1 w.heap.size 0 (aD x (.slice A9 x.f.length c9) (.slice D9 x.es.length d9)).toList/\ah O w.heap.size 126 (aD x (.slice A9 x.f.length c9) (.slice D9 x.es.length d9))/\yE w.heap.size x (.agg (aD x (.slice A9 x.f.length c9) (.slice D9 x.es.length d9))) O/\RW gw g n l1 eP fg O/\ag (XW gw g) w O:=by
  intro W1 fg B U h3 h4
  have us:=ag.sets (X:=λk=>k=w.heap.size) (g:=w.heap.size) rfl (aD x (.slice A9 x.f.length c9) (.slice D9 x.es.length d9)).toList 0 W1
  have cO:=(((((((U.aM 0 (.int .i64 x.kind)).aM 1 (.int .i64 x.br)).aM 2 (.int .u64 x.life)).aM 3 (.int .u64 x.bV)).aM 4 (.int .i64 x.cl)).aM 5 (.int .u64 x.sub)).aM 6 (.slice A9 x.f.length c9)).aM 7 (.slice D9 x.es.length d9)
  have y:W1.grownBy (dV W1 w.heap.size 0 (aD x (.slice A9 x.f.length c9) (.slice D9 x.es.length d9)).toList) (some w.heap.size):=⟨us.os,us.tape,us.output,us.size,λk hk hne=>us.block k hk aG⟩
  have H:Below w.heap.size W1 (dV W1 w.heap.size 0 (aD x (.slice A9 x.f.length c9) (.slice D9 x.es.length d9)).toList):=⟨us.os,us.tape,us.output,us.size,λk hk=>us.block k (Nat.lt_trans hk U.lt) af⟩
  exact⟨_,rfl,cO,aek h4 HN.aa U y,⟨h3.1.below H cP,h3.2.1.below H af,h3.2.2⟩,⟨us.os.trans B.os,us.tape.trans B.tape,us.output.trans B.output,bn B.size us.size,λk hk M=>(H.block k hk).trans (B.block k hk M)⟩⟩
 have akw:=ae fin
 have ajG:yE w.heap.size x (.agg (aD x (.slice A9 x.f.length c9) (.slice D9 x.es.length d9))) W:=λW' up=>kU.aa W' ⟨up.os,up.tape,up.output,up.size,λk hk M=>up.block k hk af⟩
 clear fin kU
 rcases HC.aa with ⟨rfl,rfl⟩|⟨rfl,rfl⟩
 ·have q:=hblk.cell;have y1:=E.cell;have z1:=E.frozen;obtain⟨O,GF,aZ,AJ,tZ,JZ⟩:=akw.aa W bd9 G E D ajG;exact aio
 ·have q:=hblk.cell;have y1:=E.cell;have z1:=E.frozen;have q2:=D.1.cell;have z2:=D.1.frozen;have ub:=ag.bL (W:=W) (X:=λk=>k<w.heap.size) (b:=gw) cP 2 (.bool true);obtain⟨O,GF,aZ,AJ,tZ,JZ⟩:=akw.aa (W.setCell ⟨gw,2,none⟩ (.bool true)) true (G.tr (ag.bL (X:=XW gw g) (.inr rfl) 2 _)) (E.far (p:=⟨gw,2,none⟩) aY _) D.bad (λW' up=>ajG W' (ub.tr up));exact aio
theorem aye:(prog.info? 225).map (λi=>(i.zero,i.size,i.bytes))=some (some (.agg #[.int .i64 0,.int .u64 0,.int .u64 0,.bool false]),4,32):=by kernel_rfl
theorem ay1:fK prog 154 225 (.agg #[.int .i64 0,.int .u64 0,.int .u64 0,.bool false]) 4 32:=⟨underlying154,aye,rfl,ay⟩
theorem axj:(prog.info? 26).map (λi=>(i.zero,i.size,i.bytes))=some (some (.agg #[.int .i64 0,.int .u64 0,.int .u64 0]),3,24):=by kernel_rfl
theorem TID:fK prog 44 26 (.agg #[.int .i64 0,.int .u64 0,.int .u64 0]) 3 24:=⟨underlying44,axj,rfl,ay⟩
theorem avR:(prog.info? 126).map (λi=>(i.zero,i.size,i.bytes))=some (some (.agg eI),8,96):=by kernel_rfl
theorem ayf:fK prog 43 126 (.agg eI) 8 96:=⟨underlying43,avR,rfl,ay⟩
def nF{α:Type}(S:dW α)(gb:Nat)(l:List α)(v:Value)(W:World):Prop:=∀W',ag (λk=>k<gb) W W'->aq S l v W'
theorem aom gw g n l y t w(h:RW gw g n l y t w)(_:l.length<=1000000000)(_:0<=n)(_:n<=1000000000) :
 Calls prog 193 #[.pointer (some ⟨gw,0,none⟩),.func (Fn.func 194) #[] #[]] w λe w' =>
  ∃v,e=.returned v/\nF nL w.heap.size (gI mY l y t).1 v w'/\RW gw g n (gI mY l y t).2.1 (gI mY l y t).2.2.1 (gI mY l y t).2.2.2 w'/\ag (XW gw g) w w':=by
 have G:=Hn gw g n l y t 17 w h af
 have hlt:=zy 17 af l y t
 have kO:=(zo 17 af).len l y t
 unfold gI
 generalize lu 17 l y t=a at *
 obtain⟨M,A,C,B⟩:=a
 simp only at G hlt kO⊢
 rw[show ((17:Nat):Int)=17 from rfl]at G
 have G:=ae G
 have cP:=h.lt
 have hgg:=h.2.2
 have HQ:=ae (λk=>KB T5 k A C B)
 clear h
 have O:Hid (gu mY M A C B=gu mY M A C B):=ae rfl
 generalize N:gu mY M A C B=R at O⊢
 have eZ:=ae N
 clear N O
 go_enter func193,ntmps193
 go_wp2_with fail
 refine G.aa.mono ?_
 rintro e w1⟨rfl,I,Q⟩
 go_wp2_with fail
 go_loopw [5,8] (fun o i W=>∃j:Nat,j<=M/\i=.int .u64 j/\∃es E D F,Hid (gu mY j A C B=(es,E,D,F))/\RW gw g n E D F W/\Hid (aV w.heap.size w.heap.size 225 nL es o W)/\ag (XW gw g) w W) (fun _ i _=>M-(intOf i).toNat)
 case atStart=>exact⟨0,af,rfl,[],A,C,B,ae rfl,I,ae (aV.nil _ _ _ _ _),Q⟩
 case round =>
  clear I Q;obtain⟨j,hj,rfl,es,E,D,F,HJ,Cp,HO,uj⟩:=hrel;have J:=HQ.aa j;rw[HJ.aa]at J;simp only at J;obtain⟨nG,xi⟩:=J;have ajH:es.length<=17:=af;clear xi;have hzj:=uj.size;by_cases vA:j<M
  ·have T:(j:Int)<M:=af;have AG:Hid (gu mY (j+1) A C B=(es++[(mY E D F).1],(mY E D F).2)):=ae WW;go_wp2_with fail
   refine (aol gw g n E D F wr Cp).mono ?_;rintro e H⟨rfl,F4,u4⟩;generalize U:mY E D F=X at *;obtain⟨x,lk,CQ,CY⟩:=X;simp only at F4;have Cj:Hid (gu mY (j+1) A C B=(es++[x],lk,CQ,CY)):=ae WX;have Z:=HO.aa.up (aC _) (u4.qZ (lo:=w.heap.size) (row:=none) (λk I _ _ hx=>WY));have ir:=u4.size;obtain⟨css,hown,Y,ki⟩:=Z;have kA:=K.new H (.cells (gJ x) 225);have S:w.heap.size<=(H.alloc (.cells (gJ x) 225)).heap.size:=Lg;clear HO HJ AG U;go_wp2_with (at_builtin;refine iF rfl _ _ 154 rfl w.heap.size 225 _ 4 32 ay1 _ _ _ rfl (pH hown _) (H.heap.size+1) _ 1 1 (gJ x).toList rfl ?c1 ?c2 ?c3 S ?_)
   case c1=>exact Reads.new H (gJ x).toList 225 4 1 rfl
   case c2=>and_intros <;> rfl
   case c3=>omega
   intro v9 L fN bB cQ aZ;have o8:Below w.heap.size (H.alloc (.cells (gJ x) 225)) L:=aZ;have YD:RW gw g n lk CQ CY L:=WZ;have u9:ag (XW gw g) w L:=W6;have xy:=ae (aV.snoc (cs:=(gJ x).toList) Y (λw' u=>ki w' (aI.tr (aI.aT kA _ _) u)) fN bB pC (λw' u=>rfl));exact W7
  ·have T:¬(j:Int)<M:=af;obtain rfl:j=M:=af;have V:=HJ.aa.symm.trans eZ.aa;obtain rfl:=V;have HL:Hid (nF nL w.heap.size es u5 wr):=ae λW' u=>(HO.aa.up (aC _) (u.qZ (lo:=w.heap.size) (row:=none) (λk I _ _ hx=>af))).aq
   exact Xa
theorem abu gw g n l y t w(h:RW gw g n l y t w)(_:l.length<=1000000000)(_:0<=n)(_:n<=1000000000) :
 Calls prog 197 #[.pointer (some ⟨gw,0,none⟩),.func (Fn.func 198) #[] #[]] w λe w' =>
  ∃v,e=.returned v/\nF b5 w.heap.size (gI iD l y t).1 v w'/\RW gw g n (gI iD l y t).2.1 (gI iD l y t).2.2.1 (gI iD l y t).2.2.2 w'/\ag (XW gw g) w w':=by
 have G:=Hn gw g n l y t 17 w h af
 have hlt:=zy 17 af l y t
 have kO:=(zo 17 af).len l y t
 unfold gI
 generalize lu 17 l y t=a at *
 obtain⟨M,A,C,B⟩:=a
 simp only at G hlt kO⊢
 rw[show ((17:Nat):Int)=17 from rfl]at G
 have G:=ae G
 have cP:=h.lt
 have hgg:=h.2.2
 have HQ:=ae (λk=>KB Hj k A C B)
 clear h
 have O:Hid (gu iD M A C B=gu iD M A C B):=ae rfl
 generalize N:gu iD M A C B=R at O⊢
 have eZ:=ae N
 clear N O
 go_enter func197,ntmps197
 go_wp2_with fail
 refine G.aa.mono ?_
 rintro e w1⟨rfl,I,Q⟩
 go_wp2_with fail
 go_loopw [5,8] (fun o i W=>∃j:Nat,j<=M/\i=.int .u64 j/\∃es E D F,Hid (gu iD j A C B=(es,E,D,F))/\RW gw g n E D F W/\Hid (aV w.heap.size w.heap.size 26 b5 es o W)/\ag (XW gw g) w W) (fun _ i _=>M-(intOf i).toNat)
 case atStart=>exact⟨0,af,rfl,[],A,C,B,ae rfl,I,ae (aV.nil _ _ _ _ _),Q⟩
 case round =>
  clear I Q;obtain⟨j,hj,rfl,es,E,D,F,HJ,Cp,HO,uj⟩:=hrel;have J:=HQ.aa j;rw[HJ.aa]at J;simp only at J;obtain⟨nG,xi⟩:=J;have ajH:es.length<=17:=af;clear xi;have hzj:=uj.size;by_cases vA:j<M
  ·have T:(j:Int)<M:=af;have AG:Hid (gu iD (j+1) A C B=(es++[(iD E D F).1],(iD E D F).2)):=ae WW;go_wp2_with fail
   refine (abt gw g n E D F wr Cp).mono ?_;rintro e H⟨rfl,F4,u4⟩;generalize U:iD E D F=X at *;obtain⟨x,lk,CQ,CY⟩:=X;simp only at F4;have Cj:Hid (gu iD (j+1) A C B=(es++[x],lk,CQ,CY)):=ae WX;have Z:=HO.aa.up (aC _) (u4.qZ (lo:=w.heap.size) (row:=none) (λk I _ _ hx=>WY));have ir:=u4.size;obtain⟨css,hown,Y,ki⟩:=Z;have kA:=K.new H (.cells (df x) 26);have S:w.heap.size<=(H.alloc (.cells (df x) 26)).heap.size:=Lg;clear HO HJ AG U;go_wp2_with (at_builtin;refine iF rfl _ _ 44 rfl w.heap.size 26 _ 3 24 TID _ _ _ rfl (pH hown _) (H.heap.size+1) _ 1 1 (df x).toList rfl ?c1 ?c2 ?c3 S ?_)
   case c1=>exact Reads.new H (df x).toList 26 3 1 rfl
   case c2=>and_intros <;> rfl
   case c3=>omega
   intro v9 L fN bB cQ aZ;have o8:Below w.heap.size (H.alloc (.cells (df x) 26)) L:=aZ;have YD:RW gw g n lk CQ CY L:=WZ;have u9:ag (XW gw g) w L:=W6;have xy:=ae (aV.snoc (cs:=(df x).toList) Y (λw' u=>ki w' (aI.tr (aI.aT kA _ _) u)) fN bB pC (λw' u=>rfl));exact W7
  ·have T:¬(j:Int)<M:=af;obtain rfl:j=M:=af;have V:=HJ.aa.symm.trans eZ.aa;obtain rfl:=V;have HL:Hid (nF b5 w.heap.size es u5 wr):=ae λW' u=>(HO.aa.up (aC _) (u.qZ (lo:=w.heap.size) (row:=none) (λk I _ _ hx=>af))).aq
   exact Xa
theorem Ts gw g n l y t w(h:RW gw g n l y t w)(hl:l.length<=1000000000)(hn0:0<=n)(dA:n<=1000000000) :
 Calls prog 195 #[.pointer (some ⟨gw,0,none⟩),.func (Fn.func 196) #[] #[]] w λe w' =>
  ∃v,e=.returned v/\nF aU w.heap.size (gI (iP n) l y t).1 v w'/\RW gw g n (gI (iP n) l y t).2.1 (gI (iP n) l y t).2.2.1 (gI (iP n) l y t).2.2.2 w'/\ag (XW gw g) w w':=by
 have O:=Hn gw g n l y t 17 w h af
 have hlt:=zy 17 af l y t
 have kO:=(zo 17 af).len l y t
 unfold gI
 generalize lu 17 l y t=a at *
 obtain⟨M,A,C,B⟩:=a
 simp only at O hlt kO⊢
 rw[show ((17:Nat):Int)=17 from rfl]at O
 have O:=ae O
 have cP:=h.lt
 have hgg:=h.2.2
 have HQ:=ae (λk=>KB (E8 n) k A C B)
 clear h
 have Y:Hid (gu (iP n) M A C B=gu (iP n) M A C B):=ae rfl
 generalize V:gu (iP n) M A C B=R at Y⊢
 have eZ:=ae V
 clear V Y
 go_enter func195,ntmps195
 go_wp2_with fail
 refine O.aa.mono ?_
 rintro e w1⟨rfl,G,u1⟩
 go_wp2_with fail
 go_loopw [5,8] (fun o i W=>∃j:Nat,j<=M/\i=.int .u64 j/\∃es E D F,Hid (gu (iP n) j A C B=(es,E,D,F))/\RW gw g n E D F W/\Hid (aV w.heap.size w.heap.size 126 aU es o W)/\ag (XW gw g) w W) (fun _ i _=>M-(intOf i).toNat)
 case atStart=>exact⟨0,af,rfl,[],A,C,B,ae rfl,G,ae (aV.nil _ _ _ _ _),u1⟩
 case round =>
  clear G u1;obtain⟨j,hj,rfl,es,E,D,F,HJ,Cp,HO,uj⟩:=hrel;have S:=HQ.aa j;rw[HJ.aa]at S;simp only at S;obtain⟨nG,xi⟩:=S;have ajH:es.length<=17:=af;clear xi;have hzj:=uj.size;by_cases vA:j<M
  ·have aP:(j:Int)<M:=af;have AG:Hid (gu (iP n) (j+1) A C B=(es++[((iP n) E D F).1],((iP n) E D F).2)):=ae WW;go_wp2_with fail
   refine (aoe gw g n E D F wr Cp af hn0 dA).mono ?_;rintro e I⟨v4,rfl,Q,F4,u4⟩;generalize hX:iP n E D F=X at *;obtain⟨x,lk,CQ,CY⟩:=X;simp only at Q F4;obtain⟨vf,ve,rfl,Z,he⟩:=Q I (ag.rf _ _);obtain⟨J,L,rfl⟩:=b6 Z;obtain⟨N,H,rfl⟩:=aw he;have kU:=ae Q;clear Q Z he;have Cj:Hid (gu (iP n) (j+1) A C B=(es++[x],lk,CQ,CY)):=ae WX;have cB:=HO.aa.up (aC _) (u4.qZ (lo:=w.heap.size) (row:=none) (λk G _ _ hx=>WY));have kQ:=HO.aa.blk;have ir:=u4.size;obtain⟨css,hown,hcl,ki⟩:=cB;have kA:=K.new I (.cells (aD x (.slice J x.f.length L) (.slice N x.es.length H)) 126);have hbase:w.heap.size<=(I.alloc (.cells (aD x (.slice J x.f.length L) (.slice N x.es.length H)) 126)).heap.size:=Lg;clear HO HJ AG hX;go_wp2_with (at_builtin;refine iF rfl _ _ 43 rfl w.heap.size 126 _ 8 96 ayf _ _ _ rfl (pH hown _) (I.heap.size+1) _ 1 1 (aD x (.slice J x.f.length L) (.slice N x.es.length H)).toList rfl ?c1 ?c2 ?c3 hbase ?_)
   case c1=>exact Reads.new I (aD x (.slice J x.f.length L) (.slice N x.es.length H)).toList 126 8 1 rfl
   case c2=>and_intros <;> rfl
   case c3=>omega
   intro v9 T fN bB cQ aZ;have o8:Below w.heap.size (I.alloc (.cells (aD x (.slice J x.f.length L) (.slice N x.es.length H)) 126)) T:=aZ;have YD:RW gw g n lk CQ CY T:=WZ;have u9:ag (XW gw g) w T:=W6;have xy:=ae (aV.snoc (cs:=(aD x (.slice J x.f.length L) (.slice N x.es.length H)).toList) hcl (λw' u=>ki w' (aI.tr (aI.aT kA _ _) u)) fN bB pC (λw' u=>by
    obtain⟨vf,ve,U,G,h2⟩:=kU.aa w' ⟨u.os,u.tape,u.output,bn kA.size u.size,λk hk hx=>(u.block k af (bz hk kA.size) (by intro e;have:=kQ k e.symm;omega)).trans (kA.block k hk)⟩;simp only[Value.agg.injEq,Array.mk.injEq,List.cons.injEq,and_true,true_and]at U;obtain⟨rfl,rfl⟩:=U;exact⟨_,_,rfl,G,h2⟩))
   exact W7
  ·have aP:¬(j:Int)<M:=af;obtain rfl:j=M:=af;have hR:=HJ.aa.symm.trans eZ.aa;obtain rfl:=hR;have HL:Hid (nF aU w.heap.size es u5 wr):=ae λW' u=>(HO.aa.up (aC _) (u.qZ (lo:=w.heap.size) (row:=none) (λk G _ _ hx=>af))).aq
   exact Xa
