/-
  What is known of a law's argument that can be read as data, by its type. Conditions: none.
-/
import Derived.Test.YtcjlnlcpodcldaaGreatMs06
import Derived.Test.YtcjlnlcpodcldaaGreatMsz
set_option maxRecDepth 100000
set_option maxHeartbeats 16000000
set_option linter.all false
namespace Go.Proofs.YtcjlnlcpodcldaaGreat
open Go Go.RowKit _root_.Go.Proofs.Tryz
open List renaming length→Q
open _root_.Array renaming size→Z
open Go.World renaming heap→D,alloc→aU,setCell→aV
open Go.Value renaming ownBlock→aW
open Go.Value renaming int→G,slice→F,pointer→aj,bool→ar,tuple→au,agg→av,string→aw
open Go.IntKind renaming i64→J,u64→E
open Option renaming none→U,some→I
open Go.Ending renaming returned→ak
open Go.Obj renaming cells→aq
open Go.World renaming setCell→ax,alloc→ay
open Bool renaming false→az,true→aA
open And renaming intro→aB
open List renaming lookup→aC,getElem?_eq_getElem→aE,getElem?_eq_some_iff→aF
open _root_.Array renaming getElem?_toList→aD,getElem?_eq_some_iff→aG
open Nat renaming le_succ→aH
open Or renaming inl→aI,inr→aJ
open Go renaming Calls→aK,execOp→aL,bodyPost_ret→aM,World→aP,Value→aQ
open Go.RowKit renaming Below→aN,intOf→aO
section
open Go Go.RowKit Go.ChangeShapes Go.WideShapes Go.ChangeAt
open Go.ChangeMaps (open_string shut_string)
set_option linter.unusedVariables false
def Tw(_:aP)(v:aQ):Prop:=∃n:Int,v=G J n/\-9223372036854775808<=n/\n<=9223372036854775807
abbrev aE7(x:Int×Int×ByteArray):List aQ:=[G J x.1,G J x.2.1,aw x.2.2]
section
variable {H:Type} {enc:TypeId×aQ->H} {w:aP} {base:Nat} {r:Reach} {b0:Nat} {spare:Nat->Bool} {held:Bool} {v:aQ} {d:DataW H} {p:List MemPlace}
theorem XB(j:Value.okWide prog w r b0 3 v)(h:DataW.Trod enc prog w base spare held 3 v d p):Tw w v:=by obtain⟨a,rfl,rfl,rfl,t⟩:=open_int underlying3 j h;have hb:=bounds_i64 t;exact⟨a,rfl,aZ,aZ⟩
theorem ass{T y}(O:prog.underlying T=some (.slice y)) C(hC:prog.cellsOf y=C)(t:List aQ->Prop)
 (hE:∀(L:Nat) (cs:List aQ) (x:DataW H×List MemPlace),Q cs=C->DataW.trod enc prog w base spare held L y cs=I x->t cs)
 (hv:Value.okWide prog w r b0 T v) (h:DataW.Trod enc prog w base spare held T v d p) :
 ∃(A:Option Addr) (n c:Nat) (css:List (List aQ)),v=F A n c/\Q css=n/\n<=c/\c<=maxLen/\(∀cs∈css,Q cs=C/\t cs)/\(0<C->Reads w (Z (D w)) C A n css.flatten):=by
 obtain⟨a0,Bm,Y,rfl⟩:=okWide_slice O hv
 obtain⟨L,W⟩:=h
 rcases Go.Deep.open_slice O W with ⟨hcs,_⟩|⟨a,len,cap,m,n,aT,Pl,hcs,hb,hl,hm,hmm,hx,hi⟩
 ·simp[Value.cells]at hcs;obtain⟨rfl,rfl,rfl⟩:=hcs;exact⟨U,0,0,[],rfl,rfl,bq,bq,bq,λ_=>Reads.nil _ _ _ _⟩
 ·simp[Value.cells]at hcs;obtain⟨rfl,rfl,rfl⟩:=hcs;have hlm:Bm<=m:=bG;have hex:∀i,i<Bm->∃cs,Q cs=C/\t cs/\∀j,j<C->w.cell? (a.add (i*C+j))=cs[j]?:=amC;have key:∀k,k<=Bm->∃css:List (List aQ),Q css=k/\(∀cs∈css,Q cs=C/\t cs)/\∀i j,i<k->j<C->w.cell? (a.add (i*C+j))=(css[i]?.getD [])[j]?:=amD;obtain⟨css,h1,h2,h3⟩:=key Bm (bL _);refine⟨I a,Bm,Y,css,rfl,h1,hl,hm,h2,λhC0=>?_⟩;have B:Q css.flatten=Bm*C:=amE;have hfg:∀i j,i<Bm->j<C->css.flatten[i*C+j]?=(css[i]?.getD [])[j]?:=λi j hi' hj=>yV C css (λcs hcs=>(h2 cs hcs).1) i j aZ hj
  refine⟨B,λz=>?_⟩;rw[B]at z;have N:∀q,q<Bm*C->w.cell? (a.add q)=css.flatten[q]?:=amF;have BZ:=N 0 z;have hsome:∃u,css.flatten[0]?=I u:=⟨css.flatten[0]'aZ,aE aZ⟩;obtain⟨u,R⟩:=hsome;rw[R]at BZ;obtain⟨b,S,X⟩:=a;have V:X=none:=by simpa [Addr.add]using World.cell?_spot BZ
  subst V;refine⟨b,S,rfl,?_,λj u M=>?_⟩
  ·exact amG
  ·have hj:j<Bm*C:=by have:=(aF.1 M).1;omega
   have:=N j hj;rw[Addr.add_lit]at this;rw[this,M]
theorem ag4{cs R x}(h:DataW.trod enc prog w base spare held R 83 cs=I x):∃y,cs=aE7 y/\cV y.1/\cV y.2.1:=by
 obtain⟨xs,n,_,_,H,T,t⟩:=DataW.trod_struct underlying83 h
 have N:prog.cellsOf 83=3:=cY
 rw[N]at H
 match cs,H with
 | [c0,c1,c2],_ => have z:=t 0 _ rfl;have A:=t 1 _ rfl;have j:=t 2 _ rfl;have L:prog.cellsOf 3=1:=cY;have S:prog.cellsOf 2=1:=cY;have O:prog.cellsOf 9=1:=cY;simp[L,S,O]at z A j;have:Q xs=3:=T;rw[aE aZ]at z A j;obtain⟨a,C,_,M⟩:=DataW.trod_int underlying3 z;obtain⟨b,B,_,wb⟩:=DataW.trod_int underlying2 A;obtain⟨s,es,_,_⟩:=DataW.trod_string underlying9 j;simp at C B es;subst C B es;have:=bounds_i64 M;have:=bounds_i64 wb;exact⟨(a,b,s),rfl,ic,ic⟩
theorem QP{α:Type} f(j:α->Prop):∀css:List (List aQ),(∀cs∈css,∃y,cs=f y/\j y)->∃l:List α,Q l=Q css/\css=l.map f/\∀y∈l,j y
 | [],_=>⟨[],rfl,rfl,bq⟩
 | c :: css,h=>by
  obtain⟨y,rfl,A⟩:=h c bq;obtain⟨l,B,t,H⟩:=QP f j css λcs C=>h cs (by simp[C])
  refine⟨y :: l,by simp[B],by simp[t],?_⟩;intro z hz;rcases List.mem_cons.1 hz with rfl|hz
  ·exact A
  ·exact H z hz
end
end
section
open Go Go.RowKit Go.ChangeShapes Go.WideShapes Go.ChangeAt
open Go.ChangeMaps (open_string shut_string)
section
variable {H:Type} {enc:TypeId×aQ->H} {w:aP} {base:Nat} {r:Reach} {b0:Nat} {spare:Nat->Bool} {held:Bool} {v:aQ} {d:DataW H} {p:List MemPlace}
theorem ayr{cs H x}(h:DataW.trod enc prog w base spare held H 88 cs=I x):∃y:dW,cs=lV y/\cV y.2.1/\cV y.2.2.1:=by
 obtain⟨xs,n,_,_,A,R,z⟩:=DataW.trod_struct underlying88 h
 have M:prog.cellsOf 88=4:=cY
 rw[M]at A
 match cs,A with
 | [c0,c1,c2,c3],_ => have j:=z 0 _ rfl;have t:=z 1 _ rfl;have C:prog.cellsOf 9=1:=cY;have L:prog.cellsOf 83=3:=cY;simp[C,L]at j t;have:Q xs=2:=R;rw[aE aZ]at j t;obtain⟨s,es,_,_⟩:=DataW.trod_string underlying9 j;obtain⟨y,B,O,N⟩:=ag4 t;simp at es B;obtain⟨rfl,rfl,rfl⟩:=B;subst es;exact⟨(s,y),rfl,O,N⟩
end
end
section
variable {P:Program} {aR:Exit->Act->aP->Prop}
def KP(P:Program)(j:Act)(C:aP->Prop)(φ:Nat->aQ->aP->Prop):Nat->List Oper->List (List Nat×List (Nat×Nat))->Prop
 | _,[],_=>True
 | _,_ :: _,[]=>False
 | k,o :: r,x :: xs=>aaD P j C φ k o.op o.type o.guard x.1 x.2/\KP P j C φ (k+1) r xs
def aaM(C:aP->Prop)(l:List (aQ->aP->Prop))(L:Nat->Bool)(V:Nat->aQ)(w:aP):Prop:=C w/\∀j,L j=aA->tab l j (V j) w
theorem KP.toP{ops a0 C t}(hg:∀W W',C W->aN (Z (D W)) W W'->C W')
 (st:∀f∈t,∀v w w',f v w->aN (Z (D w)) w w'->f v w') :
 ∀(l:List Oper) (k:Nat) (y:List (List Nat×List (Nat×Nat))),KP P a0 C (tab t) k l y->KK P ops a0 (aaM C t) k l y:=by
 intro l
 induction l with
 | nil=>intro k y _;exact trivial
 | cons o r A =>
  intro k y h
  cases y with
  | nil=>exact False.elim h
  | cons x xs =>
   refine⟨?_,A _ _ h.2⟩;intro L V w _ _ B ⟨z,hp⟩;have ob:=h.1 V w z λj hj=>hp j (B j hj)
   have next:∀v w',tab t k v w'->aN (Z (D w)) w w'->aaM C t (upd L k) (cK V k v) w':=by intro v w' hv hb;refine⟨hg _ _ z hb,λj hj=>?_⟩;exact alG
   exact alH
theorem ast{id ops t w} C l y
 n (hn:t.tmps.size=n) (hm:P.follows .mixedOrders=aA) (B:rL ops n=aA) (A:tk ops y=aA)
 (hg:∀W W',C W->aN (Z (D W)) W W'->C W') (H:C w.drew)
 (st:∀f∈l,∀v w w',f v w->aN (Z (D w)) w w'->f v w')
 (z:KP P t C (tab l) 0 ops.toList y)
 (fin:∀(V:Nat->aQ) (w:aP),C w->(∀j,j<ops.size->tab l j (V j) w)->aR .normal (iu V ops.toList 0 t) w) :
 (Code.region id ops aA).wp P aR t w :=
 QM (aaM C l) n hn hm B ⟨H,λ_ h=>sH⟩ (agc y A (KP.toP hg st _ _ _ z)) λV w h=>fin V w h.1 λj hj=>h.2 j Es
end
section
open Go Go.RowKit Go.ChangeShapes Go.WideShapes Go.ChangeAt
section
variable {H:Type} {enc:TypeId×aQ->H} {w:aP} {base:Nat} {r:Reach} {b0:Nat} {spare:Nat->Bool} {held:Bool} {v:aQ} {d:DataW H} {p:List MemPlace}
theorem ays{cs O x}(h:DataW.trod enc prog w base spare held O 85 cs=I x):∃y:eT,cs=gT y/\jF y:=by
 obtain⟨xs,n,_,_,C,W,t⟩:=DataW.trod_struct underlying85 h
 have S:prog.cellsOf 85=5:=cY
 rw[S]at C
 match cs,C with
 | [c0,c1,c2,c3,c4],_ => have z:=t 0 _ rfl;have A:=t 1 _ rfl;have j:=t 2 _ rfl;have L:prog.cellsOf 9=1:=cY;have R:prog.cellsOf 3=1:=cY;have N:prog.cellsOf 83=3:=cY;simp[L,R,N]at z A j;have:Q xs=3:=W;rw[aE aZ]at z A j;obtain⟨s,es,_,_⟩:=DataW.trod_string underlying9 z;obtain⟨a,B,_,M⟩:=DataW.trod_int underlying3 A;obtain⟨y,H,V,T⟩:=ag4 j;simp at es B H;obtain⟨rfl,rfl,rfl⟩:=H;subst es B;have hb:=bounds_i64 M;exact⟨(s,a,y),rfl,ic,V,T⟩
end
end
theorem awC(x y:dW) w d:(Op.equalIn (d+1+1+1) 88 (av #[aw x.1,G J x.2.1,G J x.2.2.1,aw x.2.2.2]) (av #[aw y.1,G J y.2.1,G J y.2.2.1,aw y.2.2.2])).run prog w=.ok (decide (x=y)) w:=by
 obtain⟨a,k,n,s⟩:=x
 obtain⟨j,t,z,A⟩:=y
 simp[go_sem,JZ]
 grind
theorem aBV(x y:dW) w:(binOp .neq 88 (av #[aw x.1,G J x.2.1,G J x.2.2.1,aw x.2.2.2]) (av #[aw y.1,G J y.2.1,G J y.2.2.1,aw y.2.2.2])).run prog w=.ok (ar (!decide (x=y))) w:=by rw[run_neq_struct,awC x y w 9997];rfl
section
open Go Go.RowKit Go.ChangeShapes Go.WideShapes Go.ChangeAt
section
variable {H:Type} {enc:TypeId×aQ->H} {w:aP} {base:Nat} {r:Reach} {b0:Nat} {spare:Nat->Bool} {held:Bool} {v:aQ} {d:DataW H} {p:List MemPlace} {α:Type}
theorem QK{T y}(hT:prog.underlying T=some (.slice y)) C(hC:prog.cellsOf y=C)(t:List aQ->Prop)
 (hE:∀(z:Nat) (cs:List aQ) (x:DataW H×List MemPlace),Q cs=C->DataW.trod enc prog w base spare held z y cs=I x->t cs)
 {z} {cs} {x} (V:DataW.trod enc prog w base spare held z T cs=I x) :
 ∃(A:Option Addr) (n c:Nat) (css:List (List aQ)),cs=[F A n c]/\Q css=n/\n<=c/\c<=maxLen/\(∀cs∈css,Q cs=C/\t cs)/\(0<C->Reads w (Z (D w)) C A n css.flatten):=by
 rcases Go.Deep.open_slice hT V with ⟨hcs,_⟩|⟨a,len,cap,m,n,aT,Pl,hcs,hb,Y,hm,hmm,hx,hi⟩
 ·exact⟨U,0,0,[],hcs,rfl,bq,bq,bq,λ_=>Reads.nil _ _ _ _⟩
 ·have hlm:len<=m:=bG;have hex:∀i,i<len->∃cs,Q cs=C/\t cs/\∀j,j<C->w.cell? (a.add (i*C+j))=cs[j]?:=amC;have key:∀k,k<=len->∃css:List (List aQ),Q css=k/\(∀cs∈css,Q cs=C/\t cs)/\∀i j,i<k->j<C->w.cell? (a.add (i*C+j))=(css[i]?.getD [])[j]?:=amD;obtain⟨css,h1,h2,h3⟩:=key len (bL _);refine⟨I a,len,cap,css,hcs,h1,Y,hm,h2,λhC0=>?_⟩;have L:Q css.flatten=len*C:=amE;have hfg:∀i j,i<len->j<C->css.flatten[i*C+j]?=(css[i]?.getD [])[j]?:=λi j hi' hj=>yV C css (λcs hcs=>(h2 cs hcs).1) i j aZ hj
  refine⟨L,λB=>?_⟩;rw[L]at B;have N:∀q,q<len*C->w.cell? (a.add q)=css.flatten[q]?:=amF;have BZ:=N 0 B;have X:∃u,css.flatten[0]?=I u:=⟨css.flatten[0]'aZ,aE aZ⟩;obtain⟨u,O⟩:=X;rw[O]at BZ;obtain⟨b,R,W⟩:=a;have S:W=none:=by simpa [Addr.add]using World.cell?_spot BZ
  subst S;refine⟨b,R,rfl,?_,λj u M=>?_⟩
  ·exact amG
  ·have hj:j<len*C:=by have:=(aF.1 M).1;omega
   have:=N j hj;rw[Addr.add_lit]at this;rw[this,M]
theorem ayt{T z}(hT:prog.underlying T=some (.slice z)) S(j:α->Prop)(W:prog.cellsOf z=S.size)(M:0<S.size)
 (hE:∀(B:Nat) (cs:List aQ) (x:DataW H×List MemPlace),Q cs=S.size->DataW.trod enc prog w base spare held B z cs=I x->∃y,S.rel y cs w/\j y)
 {B} {cs} {x} (L:DataW.trod enc prog w base spare held B T cs=I x):∃v l,cs=[v]/\bw S l v w/\∀y∈l,j y:=by
 obtain⟨A,n,c,css,rfl,h1,R,_,X,Y⟩:=QK hT S.size W (λcs=>∃y,S.rel y cs w/\j y) hE L
 have key:∀css:List (List aQ),(∀cs∈css,∃y,S.rel y cs w/\j y)->∃l,Each S l css w/\∀y∈l,j y:=by
  intro css
  induction css with
  | nil=>intro _;exact⟨[],Each.nil _ _,bq⟩
  | cons cs css O =>
   intro h
   obtain⟨y,V,ho⟩:=h cs bq
   obtain⟨l,t,C⟩:=O λc hc=>h c bG
   refine⟨[y]++l,(Each.one V).append t,?_⟩
   grind
 obtain⟨l,t,C⟩:=key css λcs N=>(X cs N).2
 have hn:Q l=n:=by rw[<- h1];exact t.1.symm
 subst hn
 exact⟨_,l,rfl,⟨A,c,rfl,⟨css,t,Y M⟩,R⟩,C⟩
theorem aAq{C cs x}(t:DataW.trod enc prog w base spare held C 35 cs=I x):∃l,dS.rel l cs w/\∀a∈l,ny a:=by
 obtain⟨A,n,c,css,rfl,B,M,N,L,j⟩:=QK underlying35 4 cY (λcs=>∃y:dW,cs=lV y/\cV y.2.1/\cV y.2.2.1) (λ_ _ _ _ z=>ayr z) t;obtain⟨l,h6,h7,h8⟩:=QP lV (λy:dW=>cV y.2.1/\cV y.2.2.1) css λcs H=>(L cs H).2
 have h9:=j bC;subst B;rw[<- h6]at h9⊢;refine⟨l,⟨_,rfl,A,c,rfl,?_⟩,h8⟩;rw[h7]at h9;rwa [List.flatMap_def]
theorem aAr{C cs x}(t:DataW.trod enc prog w base spare held C 37 cs=I x):∃v l,cs=[v]/\fQ l v w/\∀a∈l,jF a:=by
 obtain⟨A,n,c,css,rfl,B,M,N,L,j⟩:=QK underlying37 5 cY (λcs=>∃y:eT,cs=gT y/\jF y) (λ_ _ _ _ z=>ays z) t;obtain⟨l,h6,h7,h8⟩:=QP gT jF css λcs H=>(L cs H).2
 have h9:=j bC;subst B;rw[<- h6]at h9⊢;refine⟨_,l,rfl,⟨A,c,rfl,?_⟩,h8⟩;rw[h7]at h9;rwa [List.flatMap_def]
theorem M5{y cs x}(z:DataW.trod enc prog w base spare held y 3 cs=I x):∃n,cs=[G J n]/\cV n:=by obtain⟨a,j,_,t⟩:=DataW.trod_int underlying3 z;have:=bounds_i64 t;exact⟨a,j,ic⟩
end
end
theorem at3{α:Type}(a b:List α) k(j:k<Q a)(hb:k<Q b)(h:a.take k=b.take k):(a.take (k+1)=b.take (k+1))↔a[k]=b[k]:=by
 grind [ix,List.append_cancel_left]
theorem awD A aT c d(la lb:List dW) w B B'(hR:Reads w B 4 A (Q la) (la.flatMap lV))(hB:B<=Z (D w))(hS:Reads w B' 4 aT (Q lb) (lb.flatMap lV))(rH:B'<=Z (D w))(hlen:Q la<=1000000) :
 aK prog 71 #[F A (Q la) c,F aT (Q lb) d] w λe w'=>e=ak (ar (decide (la=lb)))/\aN (Z (D w)) w w':=by
 have HA:=aY hR
 have HD:=aY hS
 clear hR hS
 by_cases N:Q la=Q lb
 rotate_left
 ·have cD:((Q la:Int) != (Q lb:Int))=true:=by rw[bne_iff_ne];omega
  have HE:Hid (decide (la=lb)=az):=aY (by simp;rintro rfl;exact N rfl);clear N;go_in;go_wp2;exact Yk
 have cD:((Q la:Int) != (Q lb:Int))=false:=bG
 have HL:=aY N
 have ll:Q la<=Q lb:=aZ
 clear N
 go_in
 go_wp2_with fail
 go_loopw [5] (fun i wr=>∃k:Nat,k<=Q la/\i=G J k/\Hid (la.take k=lb.take k)/\aN (Z (D w)) w wr) (fun i _=>Q la-(aO i).toNat)
 case atStart=>exact⟨0,aZ,rfl,aY bq,ed _ _⟩
 case round =>
  obtain⟨k,hk,rfl,hall,hb⟩:=hrel;by_cases S:k<Q la
  ·have gJ:(k:Int)<Q la:=aZ;have R:k<Q lb:=aZ;have aJX:(k:Int)<Q lb:=aZ;obtain⟨b,t,rfl,gB,hcell⟩:=HA.aX.IA aZ;obtain⟨e,z,rfl,heB,anl⟩:=HD.aX.IA aZ;have L:=cQ gB hB;have M:=cQ heB rH;obtain⟨e0,e1,e2,e3⟩:=hcell k S;obtain⟨f0,f1,f2,f3⟩:=anl k R;have a0:=(hb.cell (p:=⟨b,t+k*4,U⟩) L).trans e0;have T:=(hb.cell (p:=⟨b,t+k*4+1,U⟩) L).trans e1;have a2:=(hb.cell (p:=⟨b,t+k*4+2,U⟩) L).trans e2;have a3:=(hb.cell (p:=⟨b,t+k*4+3,U⟩) L).trans e3;have d0:=(hb.cell (p:=⟨e,z+k*4,U⟩) M).trans f0;have d1:=(hb.cell (p:=⟨e,z+k*4+1,U⟩) M).trans f1;have d2:=(hb.cell (p:=⟨e,z+k*4+2,U⟩) M).trans f2;have d3:=(hb.cell (p:=⟨e,z+k*4+3,U⟩) M).trans f3;have hT:=aY (at3 la lb k S R hall.aX);have HF:Hid (la[k]≠lb[k]->decide (la=lb)=az):=aY λh=>by simp;rintro rfl;exact h rfl
   clear e0 e1 e2 e3 f0 f1 f2 f3 hcell anl;generalize la[k]=x at *;generalize lb[k]=y at *;have O:=aBV x y;obtain⟨xs,xk,xn,xt⟩:=x;obtain⟨ys,yk,yn,yt⟩:=y;simp only at a0 T a2 a3 d0 d1 d2 d3 O;generalize Y:decide ((xs,xk,xn,xt)=(ys,yk,yn,yt))=q at *;have HQ:=aY Y;have X:=aY O;clear Y O;go_wp2_with fail
   obtain⟨C,H⟩:∃C:aP->Prop,C=λW=>aN (Z (D wr)) wr W:=⟨_,rfl⟩
   have hg:∀W W',C W->aN (Z (D W)) W W'->C W':=by subst H;exact λW W' h1 hb=>h1.trans (hb.mono h1.size)
   have hc0:C wr:=by rw[H];exact ed _ _
   have hz:=hb.size;refine ast C [bM (F (I ⟨b,t,U⟩) (Q la) c),bM (G J k),bM (aj (I ⟨b,t+k*4,U⟩)),bM (aaO (xs,xk,xn,xt)),bM (F (I ⟨e,z,U⟩) (Q lb) d),bM (G J k),bM (aj (I ⟨e,z+k*4,U⟩)),bM (aaO (ys,yk,yn,yt)),bM (ar (!q))]
    [([],[]),([],[]),([0,1],[(17,0),(18,1)]),([2],[(19,2)]),([],[]),([],[]),([4,5],[(21,4),(22,5)]),([6],[(23,6)]),([3,7],[(20,3),(24,7)])] 26 rfl cY cY cY hg alK ?st ?ow ?_
   case st =>
    simp only[dE]
    and_intros
    all_goals first|exact am3 _|simp
   case ow =>
    simp only[KP]
    and_intros
    all_goals try trivial
    all_goals
     intro V w' j hp
     rw[H]at j
     have c0:=(j.cell (p:=⟨b,t+k*4,U⟩) cG).trans a0
     have c1:=(j.cell (p:=⟨b,t+k*4+1,U⟩) cG).trans T
     have c2:=(j.cell (p:=⟨b,t+k*4+2,U⟩) cG).trans a2
     have c3:=(j.cell (p:=⟨b,t+k*4+3,U⟩) cG).trans a3
     have g0:=(j.cell (p:=⟨e,z+k*4,U⟩) cG).trans d0
     have g1:=(j.cell (p:=⟨e,z+k*4+1,U⟩) cG).trans d1
     have g2:=(j.cell (p:=⟨e,z+k*4+2,U⟩) cG).trans d2
     have g3:=(j.cell (p:=⟨e,z+k*4+3,U⟩) cG).trans d3
     try simp only[dE,dA,dB,bM]at hp
     try simp[dC,bP,aC,hp,dA,dB,eH,aL,bR,bM,undef,ed,c0,c1,c2,c3,g0,g1,g2,g3,S,R,X.aX,go_sem]
   intro V W j hp;have h8:=hp 8 bq;simp only[dA,dB,bM]at h8;rw[H]at j;clear hp hg hc0 H;simp only[iu,Act.put,ue,tC,tB,h8];have mL:=hb.trans (j.mono hz);clear j hb X;cases q
   ·have HE:=aY (HF.aX amH);go_wp2;go_ret;exact⟨jD,mL⟩
   ·have hr:=aY (hT.aX.2 amH);go_wp2;go_roundw
    case rel=>exact⟨k+1,aZ,cU,hr,mL⟩
    case measure=>simp[aO];omega
  ·have gJ:¬(k:Int)<Q la:=aZ;have HE:Hid (decide (la=lb)=aA):=by
    grind
   go_wp2;exact Nv
section
variable {l la lb:List dW} {b:List UInt8} {v va vb:aQ} {w:aP}
theorem aAs(h:iT la va w)(k:iT lb vb w)(t:Q la<=1000000):aK prog 71 #[va,vb] w λe w'=>e=ak (ar (decide (la=lb)))/\aN (Z (D w)) w w':=by obtain⟨A,c,rfl,j⟩:=h;obtain⟨z,d,rfl,y⟩:=k;exact awD A z c d la lb w _ _ j (bL _) y (bL _) t
end
def ym(l:List dW):Bool:=decide (Q l<=20)&&l.all λx=>decide (x.1.size<=100)&&decide (x.2.2.2.size<=100)
theorem aBW l k(h:k<Q l)(hb:¬(l[k].1.size<=100/\l[k].2.2.2.size<=100)):ym l=false:=by
 grind [ym]
theorem aAt l(j:Q l<=20)(h:∀k (hk:k<Q l),l[k].1.size<=100/\l[k].2.2.2.size<=100):ym l=true:=by
 simp only[ym,fB,decide_eq_true_eq,j,true_and,xW]
 intro x t
 grind [List.getElem_of_mem]
theorem ayu A c l w B(y:Reads w B 4 A (Q l) (l.flatMap lV))(S:B<=Z (D w)) :
 aK prog 33 #[F A (Q l) c] w λe w'=>e=ak (ar (ym l))/\w=w':=by
 have M:=aY y
 clear y
 by_cases t:Q l<=20
 rotate_left
 ·have H:(20:Int)<(Q l:Int):=aZ;have HE:Hid (ym l=az):=aY (by simp[ym];omega);clear t;go_in;exact tj
 have H:¬(20:Int)<(Q l:Int):=aZ
 go_in
 go_wp2_with fail
 go_loop [3] (fun i=>∃k:Nat,k<=Q l/\i=G J k/\Hid (∀j (hj:j<Q l),j<k->l[j].1.size<=100/\l[j].2.2.2.size<=100)) (fun i=>Q l-(aO i).toNat)
 case atStart=>exact⟨0,aZ,rfl,aY (λj _ h=>absurd h aZ)⟩
 case round =>
  obtain⟨k,hk,rfl,hall⟩:=hrel;by_cases C:k<Q l
  ·have L:(k:Int)<Q l:=aZ;obtain⟨b,O,rfl,T,z⟩:=M.aX.IA aZ;obtain⟨N,d1,d2,d3⟩:=z k C;clear z d1 d2;have HF:=aY (aBW l k C);have HT:Hid (l[k].1.size<=100/\l[k].2.2.2.size<=100->∀j (hj:j<Q l),j<k+1->l[j].1.size<=100/\l[j].2.2.2.size<=100):=amI;generalize l[k]=x at *;obtain⟨xs,R,V,xt⟩:=x;simp only at N d3 HF HT;exact amJ
  ·have L:¬(k:Int)<Q l:=aZ;have HE:=aY (aAt l t λj hj=>hall.aX j hj aZ);exact tj
section
variable {l la lb:List dW} {b:List UInt8} {v va vb:aQ} {w:aP}
theorem aBX(h:iT l v w):aK prog 33 #[v] w λe w'=>e=ak (ar (ym l))/\w=w':=by obtain⟨A,c,rfl,j⟩:=h;exact ayu A c l w _ j (bL _)
end
theorem aBY{l}(h:ym l=aA):Q l<=1000000/\∀x∈l,x.1.size<=1000000000:=by
 grind [ym]
def yo(l:List eT):Bool:=decide (Q l<=10)&&l.all λx=>decide (x.1.size<=100)&&decide (x.2.2.2.2.size<=100)
theorem aAu l k(h:k<Q l)(hb:¬(l[k].1.size<=100/\l[k].2.2.2.2.size<=100)):yo l=false:=by
 grind [yo]
theorem ayv l(nD:Q l<=10)(h:∀k (hk:k<Q l),l[k].1.size<=100/\l[k].2.2.2.2.size<=100):yo l=true:=by
 simp only[yo,fB,decide_eq_true_eq,nD,true_and,xW]
 intro x j
 grind [List.getElem_of_mem]
theorem awE A c l w B(y:Reads w B 5 A (Q l) (l.flatMap gT))(T:B<=Z (D w)) :
 aK prog 34 #[F A (Q l) c] w λe w'=>e=ak (ar (yo l))/\w=w':=by
 have N:=aY y
 clear y
 by_cases t:Q l<=10
 rotate_left
 ·have H:(10:Int)<(Q l:Int):=aZ;have HE:Hid (yo l=az):=aY (by simp[yo];omega);clear t;go_in;exact tj
 have H:¬(10:Int)<(Q l:Int):=aZ
 go_in
 go_wp2_with fail
 go_loop [3] (fun i=>∃k:Nat,k<=Q l/\i=G J k/\Hid (∀j (hj:j<Q l),j<k->l[j].1.size<=100/\l[j].2.2.2.2.size<=100)) (fun i=>Q l-(aO i).toNat)
 case atStart=>exact⟨0,aZ,rfl,aY (λj _ h=>absurd h aZ)⟩
 case round =>
  obtain⟨k,hk,rfl,hall⟩:=hrel;by_cases C:k<Q l
  ·have M:(k:Int)<Q l:=aZ;obtain⟨b,R,rfl,W,z⟩:=N.aX.KR aZ;obtain⟨O,d1,d2,d3,L⟩:=z k C;clear z d1 d2 d3;have HF:=aY (aAu l k C);have HT:Hid (l[k].1.size<=100/\l[k].2.2.2.2.size<=100->∀j (hj:j<Q l),j<k+1->l[j].1.size<=100/\l[j].2.2.2.2.size<=100):=amI;generalize l[k]=x at *;obtain⟨xs,V,S,X,xt⟩:=x;simp only at O L HF HT;exact amJ
  ·have M:¬(k:Int)<Q l:=aZ;have HE:=aY (ayv l t λj hj=>hall.aX j hj aZ);exact tj
section
variable {l:List eT} {v:aQ} {w:aP}
theorem aAv(h:fQ l v w):aK prog 34 #[v] w λe w'=>e=ak (ar (yo l))/\w=w':=by obtain⟨A,c,rfl,j⟩:=h;exact awE A c l w _ j (bL _)
end
theorem aAw{l}(h:yo l=aA):Q l<=1000000/\∀x∈l,x.1.size<=1000000000:=by
 grind [yo]
section
open Go Go.RowKit Go.ChangeShapes Go.WideShapes Go.ChangeAt
def Tx(w:aP)(v:aQ):Prop:=∃l,bw ly l v w/\(∀c∈l,uB c)/\Q l<=maxLen
def pT(c:eI):Bool:=ym c.e&&yo c.f
def opZ:eI:=⟨0,0,0,0,[],[]⟩
def xq(l:List eI)(n:Nat):List eI:=if 500<Q l then List.replicate 501 opZ else (l.filter pT).take n
theorem ayw{l:List eI}{i:Nat}(t:i<Q l):(l.take (i+1)).filter pT=(l.take i).filter pT++(if pT l[i]=aA then [l[i]]else []):=by
 rw[List.take_add_one,aE t,Option.toList_some,List.filter_append];by_cases j:pT l[i]=aA
 ·rw[bT j,List.filter_cons_of_pos j,List.filter_nil]
 ·rw[bO j,List.filter_cons_of_neg j,List.filter_nil]
theorem ayx{l:List eI}{i n:Nat}(hn:n<=Q ((l.take i).filter pT)):(l.filter pT).take n=((l.take i).filter pT).take n:=by
 conv=>lhs;rw[<- List.take_append_drop i l,List.filter_append]
 rw[List.take_append_of_le_length hn]
theorem ahK{l:List eI}{n:Nat}{x:eI}(h:x∈xq l n):pT x=aA/\(x∈l∨x=opZ):=by
 unfold xq at h;split at h
 ·obtain rfl:=List.eq_of_mem_replicate h;exact⟨bC,aJ rfl⟩
 ·have:=List.mem_filter.1 (lB h);exact⟨this.2,aI this.1⟩
theorem ahL{l:List eI}{n:Nat}(j:Q l<=500):Q (xq l n)<=n:=by unfold xq;rw[bO aZ];exact List.length_take_le _ _
theorem ahM{l:List eI}{n:Nat}(h:∀c∈l,uB c):∀c∈xq l n,uB c:=λc j=>by
 rcases (ahK j).2 with t|rfl
 ·exact h c t
 ·simp[uB,opZ,cV]
end
theorem ahN x:xi x<=588:=by unfold xi;split <;> omega
theorem RT:∀l,sN l<=588*Q l
 | []=>bL _
 | x :: l=>by have:=RT l;have:=ahN x;simp only[sN,lT,List.sum_cons,fY]at *;omega
section
open Go Go.RowKit Go.ChangeShapes Go.WideShapes Go.ChangeAt
section
variable {H:Type} {enc:TypeId×aQ->H} {w:aP} {base:Nat} {r:Reach} {b0:Nat} {spare:Nat->Bool} {held:Bool} {v:aQ} {d:DataW H} {p:List MemPlace}
theorem aAx{fuel:Nat}{cs:List aQ}{x:DataW H×List MemPlace}(h:DataW.trod enc prog w base spare held fuel 39 cs=I x):∃c:eI,ly.rel c cs w/\uB c:=by
 obtain⟨xs,n,_,_,L,V,j⟩:=DataW.trod_struct underlying39 h
 have hC:prog.cellsOf 39=6:=dz
 rw[hC]at L
 have W:prog.cellsOf 3=1:=dz
 have e5:prog.cellsOf 35=1:=dz
 have e6:prog.cellsOf 37=1:=dz
 have:Q xs=6:=V
 match cs,L with
 | [c0,c1,c2,c3,c4,c5],_ => have y:=j 0 _ rfl;have C:=j 1 _ rfl;have z:=j 2 _ rfl;have t:=j 3 _ rfl;have A:=j 4 _ rfl;have B:=j 5 _ rfl;simp[W,e5,e6]at y C z t A B;rw[aE aZ]at y C z t A B;obtain⟨k,N,X⟩:=M5 y;obtain⟨c,R,wc⟩:=M5 C;obtain⟨m,M,wm⟩:=M5 z;obtain⟨n,en,wn⟩:=M5 t;obtain⟨e,⟨v,S,he⟩,T⟩:=aAq A;obtain⟨vf,f,O,dM,Y⟩:=aAr B;simp at N R M en S O;subst N R M en S O;exact⟨⟨k,c,m,n,e,f⟩,⟨_,_,rfl,he,dM⟩,X,wc,wm,wn,T,Y⟩
theorem XC(C:Value.okWide prog w r b0 25 v)(h:DataW.Trod enc prog w base spare held 25 v d p):Tx w v:=by obtain⟨A,n,c,rfl⟩:=okWide_slice underlying25 C;obtain⟨O,y⟩:=h;obtain⟨v,l,e,t,H⟩:=ayt underlying25 ly uB dz bC (λ_ _ _ _ B=>aAx B) y;obtain⟨R,M,c2,css,j,N,L,T,-⟩:=QK underlying25 6 dz (λ_=>True) (λ_ _ _ _ _=>trivial) y;rw[e]at j;injection j with j;simp[Value.cells]at e;subst e;obtain⟨S,c3,z⟩:=bD t;injection j with q1 q2 q3;injection z with p1 p2 p3;exact⟨l,t,H,aZ⟩
def aaA(_:aP)(v:aQ):Prop:=∃n:Nat,v=G .u16 n/\n<=65535
theorem ag5(j:Value.okWide prog w r b0 24 v)(h:DataW.Trod enc prog w base spare held 24 v d p):aaA w v:=by obtain⟨a,rfl,rfl,rfl,t⟩:=open_int underlying24 j h;have hb:=bounds_u16 t;exact⟨a.toNat,by rw[Int.toNat_of_nonneg hb.1],aZ⟩
end
end
theorem WC H j c1 A t c2 w:aK prog 10 #[F H j c1,F A t c2] w λe w'=>e=ak (ar (decide (j<=6)&&decide (t<=8)))/\w'=w:=by
 by_cases z:j<=6
 ·have B:(j:Int)<=6:=aZ;by_cases y:t<=8
  ·have C:(t:Int)<=8:=aZ;go_in;go_wp2;go_ret;exact⟨by simp[z,y],rfl⟩
  ·have C:¬(t:Int)<=8:=aZ;go_in;go_wp2;go_ret;exact⟨cY,rfl⟩
 ·have B:¬(j:Int)<=6:=aZ;go_in;go_wp2;go_ret;exact⟨cY,rfl⟩
theorem afx(l:List eI)(n:Nat) v w(h:bw ly l v w)(hlen:Q l<=500) :
 aK prog 11 #[v,G J n] w λe w'=>∃v',e=ak v'/\bw ly (xq l n) v' w'/\K w w':=by
 have HR:Hid (xq l n=(l.filter pT).take n):=aY (bO aZ)
 obtain⟨A,c,rfl,hl,-⟩:=h
 have HL:=aY hl
 have M:¬(500:Int)<Q l:=aZ
 have kk:=K.rf w
 have jK:=bK.nil (λ_=>False) (Z (D w)) 39 ly w
 generalize xq l n=R at *
 go_in
 go_wp2_with fail
 go_loopw [5,6,7,8] (fun o i _ _ W=>∃j:Nat,j<=Q l/\i=G J j/\bK (fun _=>False) (Z (D w)) 39 ly ((l.take j).filter pT) o W/\K w W/\Q ((l.take j).filter pT)<=n) (fun _ i _ _ _=>Q l-(aO i).toNat)
 case atStart=>exact⟨0,eO _,rfl,jK,kk,eO _⟩
 case round =>
  obtain⟨j,hj,rfl,hO,kr,hn⟩:=hrel;obtain⟨Ao,co,rfl⟩:=hO.slice;by_cases hd:j<Q l/\Q ((l.take j).filter pT)<n
  case neg =>
   have hE:Hid (R=(l.take j).filter pT):=aY (by
    rw[HR.aX];by_cases h9:j<Q l
    ·rw[ayx (i:=j) aZ,iw hn]
    ·rw[iw (by omega:Q l<=j)]at hn⊢;exact iw hn)
   have HO:=aY hO.bw;by_cases cd:(j:Int)<Q l
   ·have Cp:¬(Q ((l.take j).filter pT):Int)<n:=aZ;exact amK
   ·exact amK
  obtain⟨O,hnl⟩:=hd;have cd:(j:Int)<Q l:=aZ;have Cp:(Q ((l.take j).filter pT):Int)<n:=aZ;have:Q ((l.take j).filter pT)<=500:=cI (ni _ _) (cI (List.length_take_le' _ _) hlen);have HF:=aY (ayw O);obtain⟨V,T,cc,rfl,-,hrl,d0,d⟩:=eN HL.aX j O bC;generalize l[j]=x at *;generalize (l.take j).filter pT=ag at *;obtain⟨ve,vf,rfl,C,z⟩:=hrl w (K.rf w);have CE:=aY (aBX (nL _ _ _ _ C kr));have CF:=aY (aAv (fJ _ _ _ _ z kr));have HX:=aY (show ly.rel x (im x ve vf).toList w from ⟨ve,vf,rfl,C,z⟩);obtain⟨y,H,rfl⟩:=tc C;obtain⟨t,B,rfl⟩:=dK z;have:∀i,i<6->wr.cell? ⟨V,T+j*6+i,U⟩=(im x (F y (Q x.e) H) (F t (Q x.f) B))[i]?:=λi M=>(d wr kr i M).trans aD
  have:wr.cell? ⟨V,T+j*6,U⟩=I (G J x.kind):=d0 wr kr;go_wp2_with fail
  apply bN CE.aX;rintro w2 rfl;go_wp2_with fail
  apply bN CF.aX;rintro w3 rfl;have Y:pT x=(ym x.e&&yo x.f):=rfl;rw[Y]at HF;cases h1:ym x.e
  ·rw[h1]at HF;simp only[Bool.false_and,Bool.false_eq_true,if_false,List.append_nil]at HF;exact amL
  cases h2:yo x.f
  ·rw[h1,h2]at HF;simp only[Bool.and_false,Bool.false_eq_true,if_false,List.append_nil]at HF;exact amL
  rw[h1,h2]at HF;simp only[Bool.and_self,if_true]at HF;have L:=K.new wr (aq (im x (F y (Q x.e) H) (F t (Q x.f) B)) 39);have jh:=hO.st L;have dt:=hO.blk;have hr:=fL.new (S:=ly) (e:=39) (x:=x) (v:=av (im x (F y (Q x.e) H) (F t (Q x.f) B))) (w:=wr) (N:=λb=>False∨aW (F Ao (Q ag) co)=I b) (λX u=>ly.st HX.aX (u.k kr λb hb=>(dt b (hb.resolve_left id)).1)) 0 (eO _);have hz:=kr.size;have I0:=L.size;go_wp2_with (at_builtin;refine kI rfl _ _ 25 rfl _ 6 80 Qx rfl rfl jh _ rfl x ?p1 ?p2 ?p3 ?_)
  case p1=>exact hr
  case p2=>omega
  case p3=>exact cI hz I0
  intro v9 w9 cR dF fO cN;have kF:=(kr.tr L).trans (cN.mono aZ);go_wp2;go_roundw
  case rel=>exact⟨j+1,aZ,cU,by rw[HF.aX];exact cR,kF,by rw[HF.aX];simp;omega⟩
  case measure=>simp[aO];omega
theorem as8(l:List (List dW)) A C w(h1:bw dS l A w)(h2:bw dS l C w)(T:∀e∈l,Q e<=1000000)(ko:Q l<=1000000) :
 aK prog 36 #[A,C] w λe w'=>e=ak (ar aA)/\K w w':=by
 obtain⟨A1,c1,rfl,ll,-⟩:=h1
 obtain⟨A2,c2,rfl,gj,-⟩:=h2
 have S:=aY ll
 have N:=aY gj
 have HS:=aY T
 have Y:=K.rf w
 go_in
 go_wp2_with fail
 go_loopw [5,6] (fun i _ W=>∃j:Nat,j<=Q l/\i=G J j/\K w W) (fun i _ _=>Q l-(aO i).toNat)
 case atStart=>exact⟨0,eO _,rfl,Y⟩
 case round =>
  obtain⟨j,hj,rfl,kr⟩:=hrel;by_cases y:j<Q l
  case neg => exact amM
  have cd:(j:Int)<Q l:=aZ;obtain⟨b1,o1,cs1,rfl,-,hr1,d1,-⟩:=eN S.aX j y bC;obtain⟨b2,O,VC,rfl,-,cZ,d2,-⟩:=eN N.aX j y bC;have hsz:=HS.aX _ (dG y);obtain⟨M,rfl,H⟩:=hr1 w (K.rf w);obtain⟨R,rfl,B⟩:=cZ w (K.rf w);have q1:∀X,K wr X->X.cell? ⟨b1,o1+j,U⟩=I M:=λX t=>by simpa [dS]using d1 X (kr.tr t)
  have L:∀X,K wr X->X.cell? ⟨b2,O+j,U⟩=I R:=λX t=>by simpa [dS]using d2 X (kr.tr t)
  have z:=aY λX (t:K wr X)=>aAs (nL _ _ _ _ H (kr.tr t)) (nL _ _ _ _ B (kr.tr t)) hsz
  obtain⟨A3,c3,rfl⟩:=tc H;obtain⟨A4,c4,rfl⟩:=tc B;generalize l[j]=x at *;simp only[decide_true]at z;go_upto_region 6 with fail;have qs:=aB q1 (aB L (aB cd y));refine eQ 8 ?_;iterate 8 refine bA.i ?_
  refine λV X t hA=>?_
  simp only[bU,bZ,dx,bM,Nat.reduceAdd]at hA;refine bJ.call 71 #[F A3 (Q x) c3,F A4 (Q x) c4] rfl N0 ?_;apply dP (z.aX X t) (kr.tr t);intro X2 k2 pI;refine⟨_,rfl,?_⟩;have qs:=trivial;refine bJ.p ?_;refine bJ.h ?_;go_wp2;go_roundw
  case rel=>exact⟨j+1,aZ,cU,pI⟩
  case measure=>simp[aO];omega
theorem WU(l:List tP) H T w(h1:bw vA l H w)(h2:bw vA l T w)(hs:∀x∈l,G9 x)(ko:Q l<=1000000) :
 aK prog 13 #[H,T] w λe w'=>e=ak (ar aA)/\K w w':=by
 obtain⟨A1,c1,rfl,ll,-⟩:=h1
 obtain⟨A2,c2,rfl,gj,-⟩:=h2
 have H1:=aY ll
 have H2:=aY gj
 have HS:=aY hs
 have kk:=K.rf w
 go_in
 go_wp2_with fail
 go_loopw [5,6] (fun i _ W=>∃j:Nat,j<=Q l/\i=G J j/\K w W) (fun i _ _=>Q l-(aO i).toNat)
 case atStart=>exact⟨0,eO _,rfl,kk⟩
 case round =>
  obtain⟨j,hj,rfl,kr⟩:=hrel;by_cases A:j<Q l
  case neg => exact amM
  have cd:(j:Int)<Q l:=aZ;obtain⟨O,Y,cs1,rfl,-,hr1,Wc,d1⟩:=eN H1.aX j A bC;obtain⟨R,L,VC,rfl,-,cZ,Wd,d2⟩:=eN H2.aX j A bC;have hsz:=HS.aX _ (dG A);obtain⟨u1,rfl,E2⟩:=hr1 w (K.rf w);obtain⟨u2,rfl,M⟩:=cZ w (K.rf w);have C1:=aY λX (t:K wr X)=>as8 _ u1 u2 X (cH E2 (kr.tr t)) (cH M (kr.tr t)) hsz.2 hsz.1
  obtain⟨A3,c3,rfl⟩:=bD E2;obtain⟨N,c4,rfl⟩:=bD M;generalize l[j]=x at *;have S:∀X,K wr X->∀i,i<9->X.cell? ⟨O,Y+j*9+i,U⟩=(iW x (F A3 (Q x.batch) c3))[i]?:=λX t i B=>(d1 X (kr.tr t) i B).trans aD
  have C:∀X,K wr X->∀i,i<9->X.cell? ⟨R,L+j*9+i,U⟩=(iW x (F N (Q x.batch) c4))[i]?:=λX t i B=>(d2 X (kr.tr t) i B).trans aD
  have Mc:∀X,K wr X->X.cell? ⟨O,Y+j*9,U⟩=I (G J x.err):=λX t=>Wc X (kr.tr t)
  have q20:∀X,K wr X->X.cell? ⟨R,L+j*9,U⟩=I (G J x.err):=λX t=>Wd X (kr.tr t)
  go_upto_region 6 with fail;have qs:=aB S (aB C (aB cd A));refine eQ 10 ?_;iterate 10 refine bA.i ?_
  refine λV X t hA=>?_
  simp only[bU,bZ,dx,bM,Nat.reduceAdd]at hA;refine bJ.call 36 #[F A3 (Q x.batch) c3,F N (Q x.batch) c4] rfl N0 ?_;apply dP (C1.aX X t) (kr.tr t);intro z y pI;refine⟨_,rfl,?_⟩;have qs:=trivial;refine bJ.p ?_;refine bJ.h ?_;have p1:=S z (t.tr y);have p2:=C z (t.tr y);have:=Mc z (t.tr y);have:=q20 z (t.tr y);go_wp2_with (go_quiet (fail))
  go_roundw
  case rel=>exact⟨j+1,aZ,cU,below_drewN pI _⟩
  case measure=>simp[aO];omega
section
open Go Go.RowKit Go.ChangeShapes Go.WideShapes Go.ChangeAt
def Ij(w:aP)(v:aQ):Prop:=∃l:List Int,bw eu l v w/\∀n∈l,cV n
section
variable {H:Type} {enc:TypeId×aQ->H} {w:aP} {base:Nat} {r:Reach} {b0:Nat} {spare:Nat->Bool} {held:Bool} {v:aQ} {d:DataW H} {p:List MemPlace}
theorem J2(B:Value.okWide prog w r b0 23 v)(h:DataW.Trod enc prog w base spare held 23 v d p):Ij w v:=by
 obtain⟨A,n,c,css,rfl,z,j,L,H,t⟩:=ass underlying23 1 dz (λcs=>∃n:Int,cs=[G J n]/\cV n) (λ_ _ _ _ y=>M5 y) B h;obtain⟨l,h6,h7,h8⟩:=QP (λn:Int=>[G J n]) cV css λcs C=>(H cs C).2
 have h9:=t bC;subst z;rw[<- h6]at h9 j⊢;exact⟨l,⟨A,c,rfl,⟨l.map Dp,Hj _ _,by rw[h7]at h9;exact h9⟩,j⟩,h8⟩
end
end
theorem ahO{l:List eI}{n}:∀c∈xq l n,(c.kind=10->Q c.e<=1000000)/\(c.kind=13->Q c.f<=1000000):=λc j=>by have:=(ahK j).1;simp only[pT,fB]at this;exact⟨λ_=>(aBY this.1).1,λ_=>(aAw this.2).1⟩
theorem Nf{par bj room l}(h:(i7 par bj room l).2≠0):(i7 par bj room l).1=[]:=by
 grind [i7]
