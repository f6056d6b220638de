/-
  The overlay's rounds (layer 21): the iterator of a round's turns. Conditions: none.
-/
import Derived.Test.YtfndfpdhlbmboaaGreatMd30
import Derived.Test.YtfndfpdhlbmboaaGreatMdz
set_option maxRecDepth 100000
set_option linter.constructorNameAsVariable false
set_option maxHeartbeats 16000000
set_option linter.unusedVariables false
set_option linter.unusedSimpArgs false
namespace Go.Proofs.YtfndfpdhlbmboaaGreat
open Go Go.RowKit _root_.Go.Proofs.Tryz
section
open Go Go.RowKit Go.Shelf
attribute [local go_sem] Oper.semAt_some
def qF(n:Nat):List Int:=((List.range n).reverse++List.range n).map λ(k:Nat)=>(k:Int)
theorem Pm n:(qF n).length=n+n:=by simp[qF]
theorem ary{n j}(h:j<n):(qF n).take (n-j)=(qF n).take (n-(j+1))++[(j:Int)]:=by
 have t:n-(j+1)<(qF n).length:=by grind [Pm]
 rw[show n-j=n-(j+1)+1 by omega,gJ t];congr 1;simp only[qF,List.getElem_map,List.getElem_append,List.length_reverse,List.length_range,show n-(j+1)<n by omega,dite_true,List.getElem_reverse,List.getElem_range,List.cons.injEq,and_true];omega
theorem auN{n j}(h:j<n):(qF n).take (n+(j+1))=(qF n).take (n+j)++[(j:Int)]:=by
 have t:n+j<(qF n).length:=by grind [Pm]
 rw[show n+(j+1)=n+j+1 by omega,gJ t];congr 1;simp[qF,List.getElem_append]
theorem asX l E gw n(hn:n<=1000)(J:List Int->World->Prop)
 (F:∀pre W,J pre W->W.cell? ⟨E,0,none⟩=some (.pointer (some ⟨gw,0,none⟩))/\∃A c,W.cell? ⟨gw,0,none⟩=some (.slice A n c))
 (G:∀pre x W,J pre W->pre++[x] <+: qF n->YieldAt Fence.wide 4 prog l #[.int .i64 x] W λe W'=>e=.returned (.bool true)/\J (pre++[x]) W') W (h0:J [] W) :
 CallsIn Fence.wide 5 prog 130 #[.func (.yield l) #[] #[],.pointer (some ⟨E,0,none⟩)] W λe W'=>(∃v,e=.returned v)/\J (qF n) W':=by
 obtain⟨B,A,c,C⟩:=F [] W h0
 have S:IntKind.i64.wrap ((n:Int)-1)=(n:Int)-1:=LH
 refine callsIn_of_wp func130 rfl trivial ?_ rfl
 simp only[ntmps130,List.size_toArray,fg,List.length_nil,Nat.reduceAdd,Nat.reduceSub,Array.replicate_succ,Array.replicate_zero,List.push_toArray,List.append_toArray,aO,aR]
 gi_wp2
 gi_loopw [3] (λi wr=>∃j:Nat,i=.int .i64 ((j:Int)-1)/\j<=n/\J ((qF n).take (n-j)) wr) (λi _=>(intOf i+1).toNat)
 case atStart=>exact⟨n,rfl,aD n,La⟩
 case round =>
  clear h0 B C
  obtain⟨j,rfl,M,t⟩:=hrel
  cases j with
  | zero =>
   generalize wr=U at *;obtain⟨B,T,c2,C⟩:=F _ _ t;gi_wp2;gi_loopw [4,24] (λ_ i I=>∃j:Nat,i=.int .i64 j/\j<=n/\J ((qF n).take (n+j)) I) (λ_ i _=>n-(intOf i).toNat)
   case atStart=>exact⟨0,rfl,eV n,t⟩
   case round =>
    clear t B C;obtain⟨j,rfl,M,t⟩:=hrel;by_cases H:j<n
    ·have Q:(j:Int)<n:=af;have HS:=ae (auN H);obtain⟨N,O,assign,body,D,y⟩:=G _ (j:Int) _ t ajg;gi_wp2;refine y.mono ?_;rintro e L⟨rfl,u⟩;rw[<- HS.aa]at u;clear t y D;gi_wp2;refine⟨?_,I6⟩;iterate 9 apply Exists.intro
     refine⟨⟨j+1,?_,af,u⟩,rfl⟩;go_num
    ·have Q:¬(j:Int)<n:=af;obtain rfl:j=n:=af;rw[gQ (by rw[Pm];omega)]at t;gi_wp2;go_end0;exact⟨⟨_,rfl⟩,t⟩
  | succ j => have HS:=ae (ary (show j<n by omega));have R:IntKind.i64.wrap ((j:Int)-1)=(j:Int)-1:=LH;rw[show ((j+1:Nat):Int)-1=(j:Int) by omega];obtain⟨N,O,assign,body,D,y⟩:=G _ (j:Int) _ t ajg;gi_wp2;refine y.mono ?_;rintro e L⟨rfl,u⟩;rw[<- HS.aa]at u;clear t y D;gi_wp2;refine⟨?_,by simp[intOf]⟩;exact⟨j,rfl,af,u⟩
end
section
open Go Go.RowKit Go.Shelf
attribute [local go_sem] Oper.semAt_some
theorem apA gw W :
 Calls prog 75 #[.pointer (some ⟨gw,0,none⟩)] W λe w'=>e=.returned (.func (.func 130) #[] #[.pointer (some ⟨W.heap.size,0,none⟩)])/\w'=W.alloc (.cells #[.pointer (some ⟨gw,0,none⟩)] 28):=by
 go_enter func75,ntmps75
 go_wp2
 go_ret
 exact⟨rfl,rfl⟩
theorem axY{L k l l'}(h:fI L k=some l):fI (iF L k l') k=some l':=by
 unfold fI iF at *
 induction L with
 | nil=>simp at h
 | cons p L j =>
  grind
theorem aqj{O a b}(h:oW O a b≠0):oW (jO O a b).1 a b+1=oW O a b:=by
 unfold oW jO at *
 cases e:fI O.cz (a,b)with
 | none=>rw[e]at h;simp at h
 | some l=>cases l with
  | nil=>rw[e]at h;simp at h
  | cons m l =>
   have j:=axY (l':=l) e;simp only;split
   ·simp[j]
   ·show ((fI (iF O.cz (a,b) l) (a,b)).getD []).length+1=_;simp[j]
section
variable {W:World} {H:mM} {own:Nat->Nat} {O:bF} {par ah:List Int} {k:Nat}
def xM(O:bF)(pre:List Int):bF:=(pre.map Int.toNat).foldl yN O
theorem auO O pre x:xM O (pre++[x])=yN (xM O pre) x.toNat:=by simp[xM]
theorem awE O:xM O (qF O.par.length)=xB O:=by unfold xM qF xB;rw[List.map_map];congr 1;rw[show Int.toNat ∘ (λ(k:Nat)=>(k:Int))=id from rfl,List.map_id]
def GA(H:mM)(own:Nat->Nat)(O:bF)(par ah:List Int)(k:Nat)(j:World)(pre:List Int)(W:World):Prop:=∃u t,bu u t (xM O pre) W dF/\u.gw=H.gw/\ag (λk=>2<=own k∨k=j.heap.size∨k=j.heap.size+1) j W/\(∀k,k<j.heap.size->t k=own k)/\t j.heap.size=1/\t (j.heap.size+1)=1/\bQ par ah (xM O pre) (k+49*pre.length)
theorem axZ O n(h:(lV O n).2≠0):(lV O n).1=O:=by
 grind [lV,gX,cL]
theorem GA.next{j W1 A C t y pre}(I:C.gw=H.gw)(u:ag (λk=>2<=own k∨k=j.heap.size∨k=j.heap.size+1) j W1)(E:∀k,k<j.heap.size->t k=own k)(Q:t j.heap.size=1)(h6:t (j.heap.size+1)=1)(R:j.heap.size+1<W1.heap.size)
 (G:dB C t y W1 A) (e:xM O pre=y) (J:bQ par ah y (k+49*pre.length)):(∀k,k=j.heap.size∨k=j.heap.size+1->A.heap[k]?=W1.heap[k]?)/\GA H own O par ah k j pre A:=by
 subst e
 obtain⟨F,L,N,M,D,B⟩:=G
 refine⟨λk hk=>D.block k af aA,F,L,N,M.trans I,u.gF D λk hk e=>.inl (E k hk▸e),λk hk=>(B k af).trans (E k hk),(B _ af).trans Q,(B _ af).trans h6,J⟩
def pX(T:bF)(j i:Nat):bF:=(List.range i).foldl (λO (t:Nat)=>if t=j then O else F9 j t (oW O j t) O) T
theorem auP T j i:pX T j (i+1)=if i=j then pX T j i else F9 j i (oW (pX T j i) j i) (pX T j i):=by simp[pX,List.range_succ]
theorem awF{p:Nat->Prop} m(h:p m):∃m,p m/\∀m',p m'->m<=m':=by
 induction m using Nat.strongRecOn with
 | _ m j =>
  grind
noncomputable def LS (p:Nat->Prop):Nat:=Classical.epsilon λm=>p m/\∀m',p m'->m<=m'
theorem aeg{p m}(h:p m):p (LS p)/\LS p<=m:=by have:=Classical.epsilon_spec (awF m h);exact⟨this.1,this.2 m h⟩
structure GC(H':mM)(bN:Nat->Nat)(W1:World)(par ah:List Int)(T:bF)(j i kk:Nat)(O':bF)(W:World):Prop where
 ov:dB H' bN O' W1 W
 inv:∃m,bQ par ah O' m/\m+oW O' j i<=kk+8*i+8
 end_:if i=j then O'=pX T j i else F9 j i (oW O' j i) O'=pX T j (i+1)
theorem apB(h:bu H own O W dF)(hI:bQ par ah O k)(hp:par.length<=6)(hk:k+588<=40000) :
 Calls prog 31 #[.pointer (some ⟨H.gw,0,none⟩)] W λe w'=>e=.returned (.tuple #[])/\dB H own (xB O) W w':=by
 refine (callsIn_wide (n:=6)).1 ?_
 refine callsIn_of_wp_marks func31 rfl trivial ?_ rfl
 simp only[ntmps31,List.size_toArray,fg,List.length_nil,Nat.reduceAdd,Nat.reduceSub,Array.replicate_succ,Array.replicate_zero,List.push_toArray,List.append_toArray,aO,aR]
 have aN:=(ai.new W 28 #[.pointer (some ⟨H.gw,0,none⟩)])
 have q1:=aN.cell
 gi_wp2_with fail
 refine⟨trivial,(callsIn_wide.2 (apA _ _)).mono ?_⟩
 rintro e D⟨rfl,rfl⟩
 gi_wp2_with fail
 have k2:=K.lW W (.cells #[.pointer (some ⟨H.gw,0,none⟩)] 28) (.cells #[.pointer (some ⟨H.gw,0,none⟩)] 28)
 have hx1:=aN.alloc (.cells #[.pointer (some ⟨H.gw,0,none⟩)] 28)
 have hx2:=ai.new (W.alloc (.cells #[.pointer (some ⟨H.gw,0,none⟩)] 28)) 28 #[.pointer (some ⟨H.gw,0,none⟩)]
 simp only[World.size_alloc]at hx2⊢
 have h2:=h.st k2
 have hlo:∀k,W.heap.size<=k->own k=0:=λk hk=>by have:=h.lo k;omega
 have hz2:((W.alloc (.cells #[.pointer (some ⟨H.gw,0,none⟩)] 28)).alloc (.cells #[.pointer (some ⟨H.gw,0,none⟩)] 28)).heap.size=W.heap.size+2:=aj
 generalize (W.alloc (.cells #[.pointer (some ⟨H.gw,0,none⟩)] 28)).alloc (.cells #[.pointer (some ⟨H.gw,0,none⟩)] 28)=D at *
 have S:=hI.lh
 have Hg:=ae λpre W' (h:GA H own O par ah k D pre W')=>by obtain⟨B,y,h1,C,u,-⟩:=h;exact hx1.aW u λe=>by have:=hlo W.heap.size (aD _);omega
 have wX:=ae λpre W' (h:GA H own O par ah k D pre W')=>by obtain⟨B,y,h1,C,u,-⟩:=h;exact hx2.aW u λe=>by have:=hlo (W.heap.size+1) (by omega);omega
 have Ty:=ae λpre W' (h:GA H own O par ah k D pre W')=>by obtain⟨B,y,h1,C,u,_,_,_,F⟩:=h;obtain⟨A,c,e,-⟩:=h1.fx.now.1;have q:=(h1.fo p2).blk.cell 0;rw[C,e,F.lh,<- S]at q;exact (show ∃A c,W'.cell? ⟨H.gw,0,none⟩=some (.slice A O.par.length c)from ⟨A,c,q⟩)
 clear q1 aN
 refine aoy rfl af (gf:=130) (lb:=#[.pointer (some ⟨W.heap.size+1,0,none⟩)]) rfl trivial (enters_of func130 fB rfl) (encs:=λx:Int=>#[.int .i64 x]) (λ_=>rfl) (qF O.par.length) (GA H own O par ah k D) ?put ?start
  (λl J W' hJI hY hJ=>asX l (W.heap.size+1) H.gw O.par.length (by rw[S];omega) J (λpre W' h=>⟨(wX.aa pre W' (hJI pre W' h)).cell 0,Ty.aa pre W' (hJI pre W' h)⟩) hY W' hJ)
  (λx=>{ tmps:=#[.pointer (some ⟨H.gw,0,none⟩),.pointer (some ⟨W.heap.size,0,none⟩),.int .i64 x,undef,.pointer (some ⟨H.gw,0,none⟩),.bool false,.pointer (some ⟨H.gw,0,none⟩),.func (.func 130) #[] #[.pointer (some ⟨W.heap.size+1,0,none⟩)],.int .i64 x,undef,undef,undef,undef,undef,undef,undef,undef,undef,undef,undef,undef,undef,undef,undef,undef,undef,undef,undef,undef,undef,undef,undef,undef,undef,undef,undef,undef,undef,undef],defers:=[] }) ?assign ?body ?done
 case put =>
  rintro pre W' o⟨B,y,h1,C,u,V,Z,h6,F⟩ hlt;have u9:ag (λk=>k=D.heap.size+1) W' (W'.putObj (D.heap.size+1) o):=ag.eU (grownBy_putObj' W' _ o) λg e=>XM
  exact⟨B,y,h1.to u9 (λk e=>by subst e;rw[h6];exact⟨by decide,by unfold dF;decide⟩) (λ_ h=>h) (λ_ _=>rfl) (λk hk e=>XK),C,u.tr (u9.more λk e=>.inr (.inr e)),V,Z,h6,F⟩
 case start => intro o;have k3:=K.lW D (.deferred (some [])) o;have hz:((D.alloc (.deferred (some []))).alloc o).heap.size=D.heap.size+2:=aj;exact⟨H,_,h2.E6 k3,rfl,ag.aT k3 _,λk hk=>F6,by unfold jf;rw[if_pos (aD _),if_pos (by omega)],by unfold jf;rw[if_pos (by omega),if_pos (by omega)],hI⟩
 case assign => intro l x W' K hK;gi_wp2;exact hK
 case body =>
  intro l pre x W1 hR xK hlt;dsimp only;obtain⟨j,rfl,hjn⟩:∃j:Nat,x=(j:Int)/\j<O.par.length:=by have:=xK.subset (show x∈pre++[x] by simp);unfold qF at this;obtain⟨j,h1,rfl⟩:=List.mem_map.1 this;exact⟨j,rfl,BZ⟩
  have hpl:pre.length+1<=12:=by have:=xK.length_le;rw[Pm,S]at this;simp at this;omega
  have Zg:=Hg.aa pre W1 hR;have q:=Zg.cell;have qp:=Ty.aa pre W1 hR;obtain⟨B,y,h1,C,u,V,Z,h6,F⟩:=hR;have I:xM O (pre++[(j:Int)])=yN (xM O pre) j:=auO O pre j;have hI9:=bQ.turn F hp af j;have nv:=ae λP' W3 (M:dB B y P' W1 W3) (e:yN (xM O pre) j=P')=>GA.next (ah:=ah) (par:=par) (k:=k) C u V Z h6 hlt M (I.trans e) ax0
  generalize xM O pre=P at *;have C1:=ae (acg h1 F af j);rw[C]at C1;have hIT:=F.tick j;have HTN:=ae (axZ P j);have TS:Hid (yN P j=if (lV P j).2=0 then pX (lV P j).1 j O.par.length else P):=ae (by unfold yN pX;rw[F.lh,S]);gi_wp2_with fail
  refine⟨trivial,((callsIn_wide.2 C1.aa).inRound l).mono ?_⟩;rintro e W3⟨rfl,M⟩;generalize lV P j=T at *;obtain⟨T,code⟩:=T;by_cases hc:code=0
  ·subst hc;have HT:Hid (yN P j=pX T j O.par.length):=ae (by rw[TS.aa];exact if_pos rfl);have HN0:=ae (show dB B y T W1 W3 from M);have HI0:=ae (show bQ par ah T (k+49*pre.length+1)from hIT);have HQ:=ae λt U m (M:dB B y t W1 U) (hI:bQ par ah t m)=>show (∀i,U.cell? ⟨W.heap.size,i,none⟩=#[Value.pointer (some ⟨H.gw,0,none⟩)][i]?)/\(∃A c,U.cell? ⟨H.gw,0,none⟩=some (.slice A O.par.length c))/\∃X R gn,bu X R t U dF/\X.gw=H.gw/\ag (λk=>2<=y k) W1 U/\(∀k,k<W1.heap.size->R k=y k)/\U.cell? ⟨H.gw,2,none⟩=some (.pointer (some ⟨gn,0,none⟩))/\tg (λk=>R k≠0) (λk=>R k=3) gn t.cz U from by obtain⟨X,R,G,g2,g3,g4⟩:=M;obtain⟨A,c,e,-⟩:=G.fx.now.1;obtain⟨gn,hv,Ik⟩:=G.cz (show dF 3 by unfold dF;decide);have q0:=(G.fo p2).blk.cell 0;have q2:=(G.fo p2).blk.cell 2;rw[g2,C,e,hI.lh,<- S]at q0;rw[g2,C,hv]at q2;exact⟨(Zg.aW g3 λe=>by have:=hlo W.heap.size (aD _);have:=V W.heap.size (by omega);omega).cell,⟨A,c,q0⟩,X,R,gn,G,g2.trans C,g3,g4,q2,Ik⟩
   obtain⟨q3,⟨A3,c3,qp3⟩,-⟩:=HQ.aa _ _ _ HN0.aa HI0.aa;generalize hkk:k+49*pre.length+1=E at *;have HKK:Hid (E<=39952):=ae af;have HH3:=ae C;have HPL:Hid (O.par.length<=6):=ae (by rw[S];exact hp);clear M HTN TS C1 hIT q qp h1 F u I hI9 h2 hx1 hx2 hI h S hkk Zg xK hpl hlt C V Z h6;gi_wp2_with fail
   gi_loopw [3,18] (λ_ iv Wi=>∃i:Nat,i<=O.par.length/\iv=.int .i64 i/\Hid (dB B y (pX T j i) W1 Wi)/\Hid (bQ par ah (pX T j i) (E+8*i))) (λ_ iv _=>O.par.length-(intOf iv).toNat)
   case atStart=>exact⟨0,eV _,rfl,HN0,HI0⟩
   case round =>
    clear HN0 HI0 q3 qp3;obtain⟨i,hi,rfl,Dg,HI1⟩:=hrel;generalize wr=w5 at *;by_cases hlt:i<O.par.length
    ·have zl:(i:Int)<O.par.length:=af;gi_wp2_with fail
     have NG:=ae (auP T j i);gi_loopw [] (λWi=>∃t,Hid (GC B y W1 par ah T j i E t Wi)) (λWi=>LS λm=>∃t,GC B y W1 par ah T j i E t Wi/\oW t j i=m)
     case atStart =>
      refine⟨pX T j i,ae ⟨Dg.aa,⟨_,HI1.aa,by have:=HI1.aa.long j i;omega⟩,?_⟩⟩;split
      ·rfl
      ·next h9=>rw[NG.aa,if_neg h9]
     case round =>
      clear Dg HI1;obtain⟨O0,kN⟩:=hrel;obtain⟨t,Q,hm⟩:=(aeg (p:=λm=>∃t,GC B y W1 par ah T j i E t wr/\oW t j i=m) ⟨O0,kN.aa,rfl⟩).1;have HO:=ae Q;have HM:=ae hm;obtain⟨m,Y,hmm⟩:=Q.inv;obtain⟨q3,⟨A4,c4,qp4⟩,X,R,gn,G,g2,g3,g4,qn,Ik⟩:=HQ.aa _ _ _ Q.ov Y;have hb:=HPL.aa;by_cases hij:i=j
      ·subst hij;have N:=Q.end_;rw[if_pos rfl]at N;have HF:=ae (show dB B y (pX T i (i+1)) W1 wr by rw[NG.aa,if_pos rfl,<- N];exact Q.ov);have HI2:=ae (show bQ par ah (pX T i (i+1)) (E+8*(i+1)) by rw[NG.aa,if_pos rfl,<- N];exact Y.mono af);clear Q hm Y hmm G g3 Ik N;gi_wp2;refine⟨trivial,?_⟩;gi_wp2;exact⟨⟨i+1,hjn,bI,HF,HI2⟩,I6⟩
      ·have aFn:((i:Int) != (j:Int))=true:=ba;have C4:=ae (ars (a:=(j:Int)) (b:=(i:Int)) Ik);have N:=Q.end_;rw[if_neg hij]at N;have HHE:=ae N;have Tw:Hid (((fI t.cz ((j:Int),(i:Int))).getD []).length=oW t j i):=ae rfl;have C5:=ae (abH G Y XS (j:Int) (i:Int));rw[g2]at C5;have HDI:=ae (Y.F5 XS j i);rw[Tw.aa]at C4;obtain⟨L,hL⟩:∃L,L=oW t j i:=⟨_,rfl⟩;rw[<- hL]at C4;have HL:=ae hL;have oC:=(G.fo p2).blk;have HTR:=ae λO9 W9 (h9:dB X R O9 wr W9)=>show dB B y O9 W1 W9 from dB.tr g3 (g2.trans HH3.aa.symm) g4 h9
       clear hm Y hmm G g3 g4 Ik N hL Q;gi_wp2_with fail
       refine⟨trivial,((callsIn_wide.2 C4.aa).inRound l).mono ?_⟩;rintro e w'⟨rfl,rfl⟩;cases L with
       | zero => have I:=HHE.aa;rw[<- HL.aa]at I;have HF:=ae (show dB B y (pX T j (i+1)) W1 w' from (show t=pX T j (i+1)from I)▸HO.aa.ov);have HI2:=ae (show bQ par ah (pX T j (i+1)) (E+8*(i+1))from (show t=pX T j (i+1)from I)▸HO.aa.inv.elim λm h=>h.1.mono af);clear I;gi_wp2;exact⟨⟨i+1,af,bI,HF,HI2⟩,I6⟩
       | succ L =>
        have hpos:(0:Int)<((L+1:Nat):Int):=af;gi_wp2_with fail
        refine⟨trivial,((callsIn_wide.2 C5.aa).inRound l).mono ?_⟩;rintro e w6⟨rfl,hN6⟩;have Tj:=aqj (O:=t) (a:=(j:Int)) (b:=(i:Int)) (by rw[<- HL.aa];omega);have ak5:oW (jO t (j:Int) (i:Int)).1 j i=L:=by have:=HL.aa;omega
        have hR6:GC B y W1 par ah T j i E (jO t (j:Int) (i:Int)).1 w6:=by obtain⟨m,kH,hm2⟩:=HO.aa.inv;refine⟨HTR.aa _ _ hN6,⟨m+1,kH.F5 XS j i,af⟩,?_⟩;have I:=HHE.aa;rw[<- HL.aa]at I;rw[if_neg hij,ak5];exact I
        have HR6:=ae hR6;have Kl:Hid ((LS λm=>∃t,GC B y W1 par ah T j i E t w6/\oW t j i=m)<LS λm=>∃t,GC B y W1 par ah T j i E t w'/\oW t j i=m):=ae (by
         rw[<- HM.aa];have:=(aeg (p:=λm=>∃t,GC B y W1 par ah T j i E t w6/\oW t (j:Int) (i:Int)=m) ⟨_,hR6,rfl⟩).2;omega)
        clear hN6 Tj ak5 hR6 C4 C5 HTR HDI oC;gi_wp2;exact⟨⟨_,HR6⟩,Kl.aa⟩
    ·have zl:¬(i:Int)<O.par.length:=af;obtain rfl:i=O.par.length:=af;have HF:=ae (nv.aa _ _ Dg.aa HT.aa);exact ajh
  ·have hne:(code != 0)=true:=DY;have HF:=ae (nv.aa T W3 M (by rw[TS.aa,if_neg hc];exact (HTN.aa hc).symm));clear M nv HTN TS C1;exact ajh
 case done =>
  rintro W'⟨B,y,h1,C,u,V,Z,h6,F⟩ hK;rw[awE]at h1;have u9:ag (λk=>k=D.heap.size) W' (W'.putObj D.heap.size (.deferred none)):=ag.eU (grownBy_putObj' W' _ _) λg e=>XM
  have HF:=ae (show dB H own (xB O) W (W'.putObj D.heap.size (.deferred none))from
   ⟨B,y,h1.to u9 (λk e=>by subst e;rw[Z];exact⟨by decide,by unfold dF;decide⟩) (λ_ h=>h) (λ_ _=>rfl) (λk hk e=>XK),C,
    ((ag.aT k2 _).gF u λk hk e=>af).gF u9 λk hk e=>af,λk hk=>V k af⟩)
  gi_wp2;refine⟨aj,.inl ⟨_,_,rfl,run_takeDeferred hK,?_⟩⟩;exact⟨_,results_none rfl _ _ _,rfl,HF.aa⟩
end
end
section
variable {W W2:World} {H:mM} {own:Nat->Nat} {O:bF}
theorem bu.aAW{α u}{args:Value->Array Value}{ret:α×Int->Value}(h:bu H own O W dF)(E:pU O) c a z f
 (y:∀m B,cL O m=some B->∀X Z g gd j,K W j->dE X Z g gd B j->Calls prog u (args (.pointer (some ⟨g,0,none⟩))) j λe w'=>e=.returned (ret (f B).2)/\dE X Z g gd (f B).1 w'/\ag (λk=>¬Z k) j w') :
 (∃d:Int,(d != 0)=true/\AX H O c a=(.pointer none,d)/\vM O c a z f=(O,z,d)) ∨
 ∃g t r,AX H O c a=(.pointer (some ⟨g,0,none⟩),0)/\vM O c a z f=(t,r)/\∀j,K W j->Calls prog u (args (.pointer (some ⟨g,0,none⟩))) j λe w'=>e=.returned (ret r)/\dB H own t W w':=by
 unfold AX vM
 rcases h.via E c z f y with ⟨d,G,D,C,A⟩|⟨g,t,r,D,C,A,F⟩
 all_goals grind
theorem abK(h:bu H own O W dF)(N:pU O) c a f(D:Nat) cs(hf:∀args W,(callFunc D args).run prog W=.ok (.enter D args) W)
 (E:∀m B,cL O m=some B->∀X Z g gd C,K W C->dE X Z g gd B C->Calls prog D (#[.pointer (some ⟨g,0,none⟩),cN a]++cs) C λe w'=>e=.returned (.int .i64 (f B).2.2)/\dE X Z g gd (f B).1 w'/\ag (λk=>¬Z k) C w') :
 Calls prog 54 #[.pointer (some ⟨H.gw,0,none⟩),.int .i64 c,cN a,.func (.func D) #[] cs] W λe w'=>e=.returned (.int .i64 (vM O c a () f).2.2)/\dB H own (vM O c a () f).1 W w':=by
 have y:=ai.new W 26 #[.int .i64 a.1,.int .u64 a.2.1,.int .u64 a.2.2]
 have I:=y.aU
 have u:=ae (abJ (h.st I) p2 pB N c a)
 have U:=h.aAW (ret:=λr=>.int .i64 r.2) (args:=λv=>#[v,cN a]++cs) N c a () f E
 have q:=y.cells
 generalize vM O c a () f=R at *
 have S:=ae λj (t:K (W.alloc (.cells #[.int .i64 a.1,.int .u64 a.2.1,.int .u64 a.2.2] 26)) j)=>(y.ay t).cell
 have F:=ae λj (t:K W j)=>h.now t
 rcases U with ⟨d,hne,A,rfl⟩|⟨g,O',⟨⟨⟩,Y⟩,A,rfl,M⟩
 ·rw[A]at u;clear h A y E;go_enter func54,ntmps54;go_wp2_with fail
  apply cG u.aa I;intro j t G;have HF:=ae (F.aa j G);clear u F t;exact QU
 ·have L:=ae M;rw[A]at u;clear h A y E M;go_enter func54,ntmps54;go_wp2_with fail
  apply cG u.aa I;intro j t G;have Q:=ae (L.aa j G);have T:=S.aa j t;clear u L t F S q;go_wp2_with fail
  apply aM Q.aa;intro V J;have HF:=ae J;clear Q J T;exact QU
theorem aoD{X Z g gd B}(h:dE X Z g gd B W) a(G:dW a) j u D(hb:ai W D 51 #[u])(C:ji j u W)(I:j.length<=1000000)(M:∀x∈j,nJ x) :
 Calls prog 83 #[.pointer (some ⟨g,0,none⟩),cN a,.pointer (some ⟨D,0,none⟩)] W λe w'=>e=.returned (.int .i64 (fK B (jm B.aC a j)).2)/\dE X Z g gd (fK B (jm B.aC a j)).1 w'/\ag (λk=>¬Z k) W w':=by
 have y:=ai.new W 26 #[.int .i64 a.1,.int .u64 a.2.1,.int .u64 a.2.2]
 have t:=y.aU
 have E:=ae (awq (h.st t) a G j u (qC j u _ _ C t) I M)
 have q:=y.cell
 have H:=(hb.ay t).cell
 have J:=ae t
 generalize fK B (jm B.aC a j)=R at *
 clear h y hb C t
 go_enter func83,ntmps83
 go_wp2_with fail
 apply aM E.aa
 rintro N⟨A,F⟩
 have L:=ae (And.intro A ((ag.aT J.aa _).tr F))
 clear E A F q H
 go_wp2
 go_ret
 exact⟨rfl,L.aa⟩
theorem aoN(h:bu H own O W dF)(N:pU O) c a(L:dW a) j u(C:ji j u W)(M:j.length<=1000000)(S:∀x∈j,nJ x) :
 Calls prog 37 #[.pointer (some ⟨H.gw,0,none⟩),.int .i64 c,cN a,u] W λe w'=>e=.returned (.int .i64 (ou O c a λl=>jm l a j).2.2)/\dB H own (ou O c a λl=>jm l a j).1 W w':=by
 obtain⟨y,A,rfl⟩:=yy C
 have D:=(ai.new W 26 #[.int .i64 a.1,.int .u64 a.2.1,.int .u64 a.2.2]).alloc (.cells #[.slice y j.length A] 51)
 have E:=ai.new (W.alloc (.cells #[.int .i64 a.1,.int .u64 a.2.1,.int .u64 a.2.2] 26)) 51 #[.slice y j.length A]
 have t:=K.lW W (.cells #[.int .i64 a.1,.int .u64 a.2.1,.int .u64 a.2.2] 26) (.cells #[.slice y j.length A] 51)
 have I:=ae (abK (h.st t) N c a (λB=>((fK B (jm B.aC a j)).1,(),(fK B (jm B.aC a j)).2)) 83 #[.pointer (some ⟨W.heap.size+1,0,none⟩)] (λ_ _=>rfl) λm B V X Z g gd U G Q=>aoD Q a L j _ _ (by simpa using E.ay G) (qC j _ _ _ C (t.tr G)) M S)
 have HR:Hid (ou O c a (λl=>jm l a j)=vM O c a () λB=>((fK B (jm B.aC a j)).1,(),(fK B (jm B.aC a j)).2)):=ae rfl
 generalize ou O c a (λl=>jm l a j)=R at *
 have q:=D.cell
 have J:=ae t
 clear h D E C t
 go_enter func37,ntmps37
 go_wp2_with fail
 apply aM I.aa
 intro T F
 have HF:=ae (dB.k J.aa F)
 clear I F q
 go_wp2
 go_ret
 exact⟨fW,F4⟩
theorem ao5(h:bu H own O W dF)(E:pU O) c a(A:dW a) :
 Calls prog 17 #[.pointer (some ⟨H.gw,0,none⟩),.int .i64 c,cN a] W λe w'=>e=.returned (.int .i64 (ou O c a λl=>jx l a).2.2)/\dB H own (ou O c a λl=>jx l a).1 W w':=by
 have j:=ai.new W 26 #[.int .i64 a.1,.int .u64 a.2.1,.int .u64 a.2.2]
 have t:=j.aU
 have u:=ae (abK (h.st t) E c a (λB=>((fK B (jx B.aC a)).1,(),(fK B (jx B.aC a)).2)) 55 #[] (λ_ _=>rfl) λm B I X Z g gd J F D=>axQ D a A)
 have HR:Hid (ou O c a (λl=>jx l a)=vM O c a () λB=>((fK B (jx B.aC a)).1,(),(fK B (jx B.aC a)).2)):=ae rfl
 generalize ou O c a (λl=>jx l a)=R at *
 have q:=j.cell
 have C:=ae t
 clear h j t
 go_enter func17,ntmps17
 go_wp2_with fail
 apply aM u.aa
 intro G y
 have HF:=ae (dB.k C.aa y)
 clear u y q
 go_wp2
 go_ret
 exact⟨fW,F4⟩
theorem ao6(h:bu H own O W dF)(I:pU O) c a :
 Calls prog 16 #[.pointer (some ⟨H.gw,0,none⟩),.int .i64 c,cN a] W λe w'=>e=.returned (.tuple #[.int .i64 (yG O c a).1,.int .i64 (yG O c a).2])/\K W w':=by
 have A:=ai.new W 26 #[.int .i64 a.1,.int .u64 a.2.1,.int .u64 a.2.2]
 have E:=A.aU
 have u:=ae (abJ (h.st E) p2 pB I c a)
 have N:Hid (yG O c a=(vM O c a (0:Int) λB=>(B,FZ B a,0)).2):=ae rfl
 generalize yG O c a=R at *
 have T:(∃d:Int,(d != 0)=true/\AX H O c a=(.pointer none,d)/\R=(0,d))∨∃g B,AX H O c a=(.pointer (some ⟨g,0,none⟩),0)/\R=(FZ B a,0)/\∀C,K W C->∃X Z gd,dE X Z g gd B C:=by
  rw[N.aa];unfold AX vM;rcases h.Ze I c with ⟨d,hne,t,hcall,hu⟩|⟨n,B,gd,g,h1,h2,h3,S,V,h6,h7,h8,h9⟩
  ·grind
  ·rw[h7,h6,S,V,h9];by_cases e:a.1=(n:Int)
   ·exact .inr ⟨g,B,DU,DU,λC j=>⟨_,_,gd,h8 C j⟩⟩
   simp_all
 clear N
 rcases T with ⟨d,hne,t,rfl⟩|⟨g,B,t,rfl,J⟩
 ·rw[t]at u;clear h t A;go_enter func16,ntmps16;go_wp2_with fail
  apply cG u.aa E;intro y j D;clear u j;go_wp2;go_ret2;exact⟨rfl,D⟩
 ·rw[t]at u;have F:=ae J;have M:=ae λy (j:K (W.alloc (.cells #[.int .i64 a.1,.int .u64 a.2.1,.int .u64 a.2.2] 26)) y)=>(A.ay j).cell
  clear h t A J;go_enter func16,ntmps16;go_wp2_with fail
  apply cG u.aa E;intro y j D;obtain⟨X,Z,gd,G⟩:=F.aa y D;have L:=ae (axR G a);have Q:=M.aa y j;clear u j M F G;go_wp2_with fail
  apply cG L.aa D;intro w3 Y U;clear L Y Q;go_wp2;go_ret2;exact⟨rfl,U⟩
end
def fV(par ah:List Int)(gw:Nat)(O:bF)(k:Nat)(Z:Nat->Prop)(W:World):Prop :=
 bQ par ah O k/\∃H own,H.gw=gw/\bu H own O W dF/\∀b,Z b->b<W.heap.size/\own b=0
def xj(par ah:List Int)(gw:Nat)(O:bF)(k:Nat)(Z:Nat->Prop)(W W':World):Prop:=fV par ah gw O k Z W'/\ag (λb=>¬Z b) W W'
section
variable {par ah:List Int} {gw k:Nat} {O O':bF} {Z:Nat->Prop} {W W':World}
theorem fV.st(h:fV par ah gw O k Z W)(u:K W W'):fV par ah gw O k Z W':=by obtain⟨t,H,own,e,j,hz⟩:=h;exact⟨t,H,own,e,j.st u,λb hb=>⟨bz (hz b hb).1 u.size,(hz b hb).2⟩⟩
theorem fV.more{Z'}(h:fV par ah gw O k Z W)(u:K W W')(y:∀b,Z' b->Z b∨W.heap.size<=b/\b<W'.heap.size):fV par ah gw O k Z' W':=by
 obtain⟨t,H,own,e,j,hz⟩:=h;have A:=u.size;refine⟨t,H,own,e,j.st u,λb hb=>?_⟩;rcases y b hb with h|h
 ·grind
 ·exact⟨h.2,by have:=j.lo b;omega⟩
theorem fV.go(h:fV par ah gw O k Z W){u}{args:Value->Array Value}{R:Ending->World->Prop}{j}
 (A:∀H own,bu H own O W dF->Calls prog u (args (.pointer (some ⟨H.gw,0,none⟩))) W λe w'=>R e w'/\dB H own O' W w') (B:bQ par ah O' j) :
 Calls prog u (args (.pointer (some ⟨gw,0,none⟩))) W λe w'=>R e w'/\xj par ah gw O' j Z W w':=by
 obtain⟨-,H,own,rfl,y,hz⟩:=h
 refine (A H own y).mono ?_
 rintro e w'⟨E,D,C,I,F,t,G⟩
 have L:=t.size
 exact⟨E,⟨B,D,C,F,I,λb hb=>⟨aA,(G b (hz b hb).1).trans (hz b hb).2⟩⟩,t.more λb hb J=>aA⟩
theorem fV.begin(h:fV par ah gw O k Z W)(hk:k<=40000){c}(j:cD c) :
 Calls prog 14 #[.pointer (some ⟨gw,0,none⟩),.int .i64 c] W λe w'=>e=.returned (.tuple #[cN (jz O c).2.1,.int .i64 (jz O c).2.2])/\xj par ah gw (jz O c).1 (k+1) Z W w' :=
 h.go (args:=λp=>#[p,.int .i64 c]) (λH own t=>apz t h.1.gH c j λn B hu=>aji) (h.1.begin af j)
theorem fV.sub(h:fV par ah gw O k Z W)(hk:k<=40000){c}(j:cD c){n:Nat}(hn:n<18446744073709551616){f vf}(A:fF f vf W)(hfit:∀t∈f,jB t)(y:f.length<=1000000) :
 Calls prog 32 #[.pointer (some ⟨gw,0,none⟩),.int .i64 c,.int .u64 n,vf] W λe w'=>e=.returned (.tuple #[cN (y8 O c n f).2.1,.int .i64 (y8 O c n f).2.2])/\xj par ah gw (y8 O c n f).1 (k+1) Z W w' :=
 h.go (args:=λp=>#[p,.int .i64 c,.int .u64 n,vf]) (λH own u=>arv u h.1.gH c j n hn f vf A hfit y λn B hu=>aji) (h.1.sub af j hn hfit)
theorem fV.I3(h:fV par ah gw O k Z W) c{a}(t:dW a){j u}(D:ji j u W)(A:j.length<=1000000)(y:∀x∈j,nJ x) :
 Calls prog 37 #[.pointer (some ⟨gw,0,none⟩),.int .i64 c,cN a,u] W λe w'=>e=.returned (.int .i64 (ou O c a λl=>jm l a j).2.2)/\xj par ah gw (ou O c a λl=>jm l a j).1 (k+1) Z W w' :=
 h.go (args:=λp=>#[p,.int .i64 c,cN a,u]) (λH own C=>aoN C h.1.gH c a t j u D A y) (h.1.keep c a _ λB E=>E.I3 y t)
theorem fV.Ga(h:fV par ah gw O k Z W) c{a}(j:dW a) :
 Calls prog 17 #[.pointer (some ⟨gw,0,none⟩),.int .i64 c,cN a] W λe w'=>e=.returned (.int .i64 (ou O c a λl=>jx l a).2.2)/\xj par ah gw (ou O c a λl=>jx l a).1 (k+1) Z W w' :=
 h.go (args:=λp=>#[p,.int .i64 c,cN a]) (λH own t=>ao5 t h.1.gH c a j) (h.1.keep c a _ λB u=>u.Ga j)
theorem fV.round(h:fV par ah gw O k Z W)(hp:par.length<=6)(hk:k+588<=40000) :
 Calls prog 31 #[.pointer (some ⟨gw,0,none⟩)] W λe w'=>e=.returned (.tuple #[])/\xj par ah gw (xB O) (k+588) Z W w' :=
 h.go (args:=λp=>#[p]) (λH own j=>apB j h.1 hp hk) (h.1.round hp af)
theorem fV.tick(h:fV par ah gw O k Z W)(hk:k<=40000) n :
 Calls prog 12 #[.pointer (some ⟨gw,0,none⟩),.int .i64 n] W λe w'=>e=.returned (.int .i64 (lV O n).2)/\xj par ah gw (lV O n).1 (k+1) Z W w' :=
 h.go (args:=λp=>#[p,.int .i64 n]) (λH own j=>acg j h.1 hk n) (h.1.tick n)
theorem fV.F5(h:fV par ah gw O k Z W)(hk:k<=40000) a b :
 Calls prog 18 #[.pointer (some ⟨gw,0,none⟩),.int .i64 a,.int .i64 b] W λe w'=>e=.returned (.int .i64 (jO O a b).2)/\xj par ah gw (jO O a b).1 (k+1) Z W w' :=
 h.go (args:=λp=>#[p,.int .i64 a,.int .i64 b]) (λH own j=>abH j h.1 hk a b) (h.1.F5 af a b)
theorem fV.Ma(h:fV par ah gw O k Z W) n keep(hk:cD keep) :
 Calls prog 11 #[.pointer (some ⟨gw,0,none⟩),.int .i64 n,.int .i64 keep] W λe w'=>e=.returned (.int .i64 (sB O n).2)/\xj par ah gw (sB O n).1 k Z W w' :=
 h.go (args:=λp=>#[p,.int .i64 n,.int .i64 keep]) (λH own j=>apy j h.1 n keep hk) (h.1.Ma n)
theorem fV.LK(h:fV par ah gw O k Z W)(hk:k<=40000) n :
 Calls prog 20 #[.pointer (some ⟨gw,0,none⟩),.int .i64 n] W λe w'=>e=.returned (.int .i64 (lR O n).2)/\xj par ah gw (lR O n).1 (k+1) Z W w' :=
 h.go (args:=λp=>#[p,.int .i64 n]) (λH own j=>aoM j h.1 hk n) (h.1.LK n af)
theorem fV.MH(h:fV par ah gw O k Z W)(hk:k<=40000) c :
 Calls prog 15 #[.pointer (some ⟨gw,0,none⟩),.int .i64 c] W λe w'=>(∃v,e=.returned (.tuple #[v,.int .i64 (jr O c).2.2])/\aq cO (jr O c).2.1 v w')/\xj par ah gw (jr O c).1 (k+1) Z W w' :=
 h.go (args:=λp=>#[p,.int .i64 c]) (λH own j=>(aqh j h.1 hk c).mono λe w' ⟨v,y,u,t⟩=>⟨⟨v,y,u⟩,t⟩) (h.1.MH c)
theorem fV.status(h:fV par ah gw O k Z W) c a :
 Calls prog 16 #[.pointer (some ⟨gw,0,none⟩),.int .i64 c,cN a] W λe w'=>e=.returned (.tuple #[.int .i64 (yG O c a).1,.int .i64 (yG O c a).2])/\K W w':=by
 obtain⟨t,H,own,rfl,j,-⟩:=h
 exact ao6 j t.gH c a
theorem fV.ayT(h:fV par ah gw O k Z W) c :
 Calls prog 25 #[.pointer (some ⟨gw,0,none⟩),.int .i64 c] W λe w'=>e=.returned (.int .i64 (I5 O c))/\w'=W:=by
 obtain⟨t,H,own,rfl,j,-⟩:=h
 exact ao4 j p2 t.gH c
theorem fV.got(h:fV par ah gw O k Z W)(hk:k<=40000)(j:∀l∈O.got,∀b∈l,b.length<=1000000/\∀e∈b,e.length<=1000000) c :
 Calls prog 26 #[.pointer (some ⟨gw,0,none⟩),.int .i64 c] W λe w'=>∃v,e=.returned v/\aq (AL cO) (AY O c) v w'/\K W w':=by
 obtain⟨u,H,own,rfl,t,-⟩:=h
 grind [arx]
theorem fV.state(h:fV par ah gw O k Z W) n :
 Calls prog 19 #[.pointer (some ⟨gw,0,none⟩),.int .i64 n] W λe w'=>∃vl vp va,e=.returned (.agg (cP (kT O n) vl vp va))/\mh (λk=>k<W.heap.size) (kT O n) vl vp va w'/\K W w':=by
 obtain⟨t,H,own,rfl,j,-⟩:=h
 grind [abX,p2,pB]
theorem fV.busy(h:fV par ah gw O k Z W) n :
 Calls prog 24 #[.pointer (some ⟨gw,0,none⟩),.int .i64 n] W λe w'=>e=.returned (.int .i64 (Jf O n:Int))/\K W w':=by
 obtain⟨t,H,own,rfl,j,-⟩:=h
 grind [aqi,p2,pB]
theorem fV.up(h:fV par ah gw O k Z W) n :
 Calls prog 13 #[.pointer (some ⟨gw,0,none⟩),.int .i64 n] W λe w'=>e=.returned (.bool (cL O n).isSome)/\w'=W:=by
 obtain⟨t,H,own,rfl,j,-⟩:=h
 exact Pk j p2 pB t.gH n
end
theorem ajj par ah room t j w(G:aq cQ par t w)(D:aq cQ ah j w)(A:fk par=true)(u:jt par ah=true)(B:ir (cM (bP bU))<=room)(y:room<=1048576) Z(E:∀b,Z b->b<w.heap.size) :
 Calls prog 10 #[t,j,.int .i64 room] w λe w'=>∃gw,e=.returned (.tuple #[.pointer (some ⟨gw,0,none⟩),.int .i64 0])/\fV par ah gw (jV par ah room) 0 Z w'/\K w w':=by
 refine (aru par ah room t j w G D A u B y).mono ?_
 rintro e w'⟨H,own,rfl,C,F,k⟩
 have I:=k.size
 exact⟨_,rfl,⟨bQ.new A u B y,H,own,rfl,C,λb hb=>⟨aA,F b (E b hb)⟩⟩,k⟩
def yQ(par ah:List Int):Bool:=decide (par.length<=6)&&decide (ah.length<=8)&&fk par&&jt par ah
theorem aj2:ir (cM (bP bU))<=60000:=by decide +kernel
theorem auQ{par ah}(t:par.length<=6)(j:ah.length<=8):yQ par ah=(pW par ah 60000==0):=by unfold yQ pW;rw[if_pos aj2];cases fk par <;> cases jt par ah <;> simp[t,j]
theorem aqk par ah B y w(t:aq cQ par B w)(j:aq cQ ah y w) :
 Calls prog 9 #[B,y] w λe w'=>e=.returned (.bool (yQ par ah))/\K w w':=by
 have kk:=K.rf w
 by_cases h6:par.length<=6
 case neg =>
  have hg:yQ par ah=false:=by unfold yQ;simp[h6]
  have G:6<(par.length:Int):=af;obtain⟨F,c1,rfl⟩:=av t;obtain⟨D,c2,rfl⟩:=av j;rw[hg];clear t j h6 hg;exact ajk
 have G:¬6<(par.length:Int):=af
 by_cases h8:ah.length<=8
 case neg =>
  have hg:yQ par ah=false:=by unfold yQ;simp[h8]
  have J:8<(ah.length:Int):=af;obtain⟨F,c1,rfl⟩:=av t;obtain⟨D,c2,rfl⟩:=av j;rw[hg];clear t j h6 h8 hg;exact ajk
 have J:¬8<(ah.length:Int):=af
 have C:=ae (acf par ah 60000 B y w t j af af af)
 have u:=ae (auQ h6 h8)
 have E:Hid (∀e w',wJ par ah 60000 w e w'->if pW par ah 60000=0 then ∃H own,e=.returned (.tuple #[.pointer (some ⟨H.gw,0,none⟩),.int .i64 0])/\bu H own (jV par ah 60000) w' dF/\(∀k,k<w.heap.size->own k=0)/\K w w' else e=.returned (.tuple #[.pointer none,.int .i64 (pW par ah 60000)])/\K w w'):=ae λ_ _ h=>h
 generalize wJ par ah 60000 w=L at *
 generalize pW par ah 60000=N at *
 generalize yQ par ah=R at *
 obtain⟨F,c1,rfl⟩:=av t
 obtain⟨D,c2,rfl⟩:=av j
 clear t j h6 h8
 go_enter func9,ntmps9
 go_wp2_with fail
 refine C.aa.mono ?_
 intro e M hp
 replace hp:=E.aa _ _ hp
 clear C E
 split at hp
 ·next hx =>
  subst hx;obtain⟨H,own,rfl,-,-,A⟩:=hp;obtain rfl:R=true:=u.aa;clear u;go_wp2;go_ret;exact⟨rfl,A⟩
 ·next hx =>
  obtain⟨rfl,A⟩:=hp;have I:R=false:=by rw[u.aa];simpa using hx
  subst I;clear u hx;go_wp2;go_ret;exact⟨rfl,A⟩
def tA:List dH:=[(⟨#[112]⟩,8,0,0,⟨#[]⟩)]
def eA:List cZ:=[(⟨#[112]⟩,1,5,⟨#[]⟩)]
def aw0:bF:=jV [-1,0] [1] 10000
def Oo:bF×aS×Int:=y8 aw0 0 1 tA
def Oq:bF×aS×Int:=jz Oo.1 0
def Ot:bF×Unit×Int:=ou Oq.1 0 (1,1,2) λl=>jm l (1,1,2) eA
def Ou:bF×Unit×Int:=ou Ot.1 0 (1,1,2) λl=>jx l (1,1,2)
def aw5:bF:=xB Ou.1
def aw6:bF:=xB aw5
def aw7:bF:=xB aw6
def Dz:bF×List (List cZ)×Int:=jr aw7 0
def Ov:bF×Int:=sB Dz.1 1
def Ow:bF×aS×Int:=jz Ov.1 0
def Ox:bF×Int:=lR Ow.1 1
def rC:bF×List (List cZ)×Int:=jr Ox.1 0
theorem XT:(decide (Oo.2=((1,1,1),0)/\Oq.2=((1,1,2),0)/\Ot.2.2=0/\Ou.2.2=0/\Dz.2.1.length=1/\Dz.2.2=0/\yG Dz.1 0 (1,1,2)=(3,0)/\Ov.2=0) &&
 decide (Ow.2=((0,0,0),210)/\Ox.2=0/\rC.2.1.length=0/\rC.2.2=0/\I5 rC.1 0=2/\(AY rC.1 0).length=1/\(kT rC.1 0).list.length=2/\Jf rC.1 1=0/\(cL rC.1 1).isSome=true) &&
 rC.1.got.all (λl=>l.all λb=>decide (b.length<=1000)&&b.all λe=>decide (e.length<=1000)))=true:=QR
theorem ayU:∀l∈rC.1.got,∀b∈l,b.length<=1000000/\∀e∈b,e.length<=1000000:=λl t b hb=>by have h:=XT;rw[dC]at h;have h9:=(List.all_eq_true.1 ((List.all_eq_true.1 h.2) l t)) b hb;rw[dC]at h9;exact⟨bn (of_decide_eq_true h9.1) ax,λe j=>bn (of_decide_eq_true ((List.all_eq_true.1 h9.2) e j)) ax⟩
theorem EG:Oo.2=((1,1,1),0)/\Oq.2=((1,1,2),0)/\Ot.2.2=0/\Ou.2.2=0/\Dz.2.1.length=1/\Dz.2.2=0/\yG Dz.1 0 (1,1,2)=(3,0)/\Ov.2=0:=by
 have h:=XT
 grind
theorem Cw:Ow.2=((0,0,0),210)/\Ox.2=0/\rC.2.1.length=0/\rC.2.2=0/\I5 rC.1 0=2/\(AY rC.1 0).length=1/\(kT rC.1 0).list.length=2/\Jf rC.1 1=0/\(cL rC.1 1).isSome=true:=by
 have h:=XT
 grind
theorem asY n w:Calls prog 39 #[.int .i64 n] w λe w'=>e=.returned (.agg #[.int .i64 1,.int .i64 n,.string ⟨#[]⟩])/\K w w':=by have j:=ai.new w 71 #[.int .i64 0,.int .i64 0,.string ⟨#[]⟩];have u:=j.aU;go_enter func39,ntmps39;go_upto_region 1 with (fail);generalize w.alloc _=t at *;generalize hg:w.heap.size=g at j⊢;have HG:=ae hg;clear hg;have q:=j.cell;have z:=j.frozen;go_wp2;have B:ai (World.setCell (World.setCell (World.setCell t _ _) _ _) _ _) g 71 #[.int .i64 1,.int .i64 n,.string ⟨#[]⟩]:=((j.aQ 0 (.int .i64 1)).aQ 1 (.int .i64 n)).aQ 2 (.string ⟨#[]⟩);have y:=K.set (K.set (K.set u (r:=g) QC 0 (.int .i64 1)) (r:=g) QC 1 (.int .i64 n)) (r:=g) QC 2 (.string ⟨#[]⟩);clear q z;generalize World.setCell (World.setCell (World.setCell t _ _) _ _) _ _=C at *;have A:=B.cell;refine bodyPost_ret (v:=.agg #[.int .i64 1,.int .i64 n,.string ⟨#[]⟩]) (by simp[results,results39,go_sem,A]) rfl ?_;exact⟨rfl,y⟩
theorem aeQ{w:World} l T{M}(y:∀k,M k->k<w.heap.size):Fx M (λW=>aq cQ l (.slice (some ⟨w.heap.size,0,none⟩) l.length l.length) W) (w.alloc (.cells (l.map λn=>Value.int .i64 n).toArray T)):=by
 intro W u;have hb:=(ai.new w T (l.map λn=>Value.int .i64 n).toArray).aW u λh=>aA
 refine⟨_,_,rfl,⟨l.map AO,FG _ _,by grind [UY,cQ],λ_=>⟨_,0,rfl,hb.lt,λj u t=>?_⟩⟩,aD _⟩;rw[UY]at t;rw[mQ,hb.cell j,List.getElem?_toArray];exact t
theorem ax1(w:World) t T:fF [t] (.slice (some ⟨w.heap.size,0,none⟩) 1 1) (w.alloc (.cells (fR t).toArray T)) :=
 ⟨_,_,rfl,by simpa using (Reads.new w (fR t) T 5 1 rfl).more (by simp)⟩
theorem ax2(w:World) t T:ji [t] (.slice (some ⟨w.heap.size,0,none⟩) 1 1) (w.alloc (.cells (nI t).toArray T)) :=
 ⟨_,_,rfl,by simpa using (Reads.new w (nI t) T 4 1 rfl).more (by simp)⟩
theorem ai.z{Z:Nat->Prop}{W W' g t cs}(h:ai W g t cs)(u:ag (λk=>¬Z k) W W')(hz:Z g):ai W' g t cs:=h.aW u λhn=>hn hz
theorem aql a b c d W:(Instr.field 46 (.agg #[a,b,c,d]) 1).run prog W=.ok b W:=by rfl
theorem xj.k{par ah gw k O Z w W W'}(h:xj par ah gw O k Z W W')(hk:K w W)(j:∀b,b<w.heap.size->Z b):K w W' :=
 h.2.k hk λb hb=>Nat.le_of_not_lt λh9=>hb (j b h9)
theorem apC w:Calls prog 8 #[] w λe w'=>e=.returned (.bool true)/\K w w':=by
 have kA:=K.lW w (.cells #[.int .i64 (-1),.int .i64 0] 3) (.cells #[.int .i64 1] 3);have h1:=((aeQ (w:=w) [-1,0] 3 (M:=λ_=>False) (λ_ h=>h.elim)).k ((K.rf _).al (.cells #[.int .i64 1] 3))).now;have hz1:(w.alloc (.cells #[.int .i64 (-1),.int .i64 0] 3)).heap.size=w.heap.size+1:=aj;have h2:=(aeQ (w:=w.alloc (.cells #[.int .i64 (-1),.int .i64 0] 3)) [1] 3 (M:=λ_=>False) (λ_ h=>h.elim)).now;rw[hz1]at h2;have C1:=ae (ajj [-1,0] [1] 10000 _ _ _ h1 h2 ax ax QR ax (λb=>b<w.heap.size) λb hb=>bz hb kA.size);clear h1 h2 hz1;go_enter func8,ntmps8;go_wp2_with fail
 refine C1.aa.mono ?_;rintro e w1⟨gw,rfl,hO,k1⟩;have Fq:=kA.tr k1;have Y:=K.new w1 (.cells #[.string ⟨#[112]⟩,.int .i64 8,.int .i64 0,.int .i64 0,.string ⟨#[]⟩] 73);have C:=(hO.st Y).sub af (c:=0) qA (n:=1) af (f:=tA) (ax1 w1 (⟨#[112]⟩,8,0,0,⟨#[]⟩) _) (by simp[tA,jB,cD]) (by simp[tA]);rw[show y8 (jV [-1,0] [1] 10000) 0 1 tA=Oo from rfl,EG.1]at C;replace C:=ae C;have k0B:=Fq.tr Y;clear hO C1 k1 Fq kA;go_wp2_with fail
 generalize w1.alloc _=w2 at *;refine C.aa.mono ?_;rintro e w3⟨rfl,j⟩;have lK:=j.k k0B λ_ h=>h
 have bH:=j.1;clear C j Y k0B;go_upto_region 3 with (fail);have kC:=K.new w3 (.cells #[.int .i64 1,.int .u64 1,.int .u64 1] 26);have cI:=bH.st kC;have s5:=lK.tr kC;generalize w3.alloc _=w4 at *;have E:=cI.begin af (c:=0) qA;rw[show jz Oo.1 0=Oq from rfl,EG.2.1]at E;replace E:=ae E;clear kC lK bH cI;go_wp2_with fail
 refine E.aa.mono ?_;rintro e O⟨rfl,j⟩;have xQ:=j.k s5 λ_ h=>h
 have cK:=j.1;clear E j s5;go_upto_region 4 with (fail);have Q:=ai.new O 26 #[.int .i64 1,.int .u64 1,.int .u64 2];have kD:=Q.aU;have lB:=cK.more (Z':=λb=>b<w.heap.size∨b=O.heap.size) kD λb hb=>hb.imp id λe=>FQ
 have Fb:=xQ.tr kD;generalize O.alloc _=w6 at *;generalize O.heap.size=b2 at *;clear cK xQ kD;have qc:=Q.cells;have C5:=ae λW=>asY 5 W
 have qs:=qc;refine dV 5 ?_;iterate 2 refine au.i ?_
 refine au.is (.agg #[.int .i64 1,.int .i64 5,.string ⟨#[]⟩]) (λV W kW hp=>?_) ?_
 ·(try simp only[cF,aO,aR,bW,bY,aJ]at hp)
  simp[bR,aF,List.lookup,hp,cW,execOp,aG,aJ,qc,go_sem];refine (C5.aa W).mono ?_;rintro e w4⟨rfl,k4⟩;grind
 refine au.i ?_;refine au.op (ji eA) (qC _) (λV W kW hp=>?_) ?_
 ·simp only[cF,aO,aR,bW,bY,aJ]at hp;simp[bR,aF,List.lookup,hp,cW,execOp,aG,go_sem];exact⟨ax2 W (⟨#[112]⟩,1,5,⟨#[]⟩) _,(K.rf W).al _⟩
 clear qs;intro V W kW hA;simp only[aO,aR,cC,aJ,Nat.reduceAdd]at hA;obtain⟨e0,e1,e2,e3,h4,-⟩:=hA;have vD:=Fb.tr kW;have hcW:=Q.ay kW;have L:=(lB.st kW).I3 0 (a:=(1,1,2)) (by simp[dW,cD]) (u:=V 4) h4 (by simp[eA]) (by simp[eA,nJ,cD]);rw[show (ou Oq.1 0 (1,1,2) λl=>jm l (1,1,2) eA)=Ot from rfl,EG.2.2.1]at L;replace L:=ae L;refine aH.call _ _ rfl (by simp[aF,List.lookup,bj,e0,e1,execOp,aG,go_sem];exact⟨rfl,rfl⟩) ?_;refine L.aa.mono ?_;rintro e w8⟨rfl,j⟩;refine⟨_,rfl,?_⟩;have sZ:=j.k vD λ_ h=>.inl h
 have hc8:=hcW.z j.2 (.inr rfl);have iA:=j.1;apply aH.pure;rfl;simp[aF,List.lookup,bj,execOp,aG,go_sem];rfl;refine aH.nil ?_;simp only[fZ,Act.put,sC,rI,rH,Nat.reduceAdd,bj,Nat.reduceEqDiff,reduceIte];clear L C5 lB j kW qc Q hcW e0 e1 e2 e3 h4 vD Fb;generalize V 0=x0 at *;generalize V 1=x1 at *;generalize V 2=x2 at *;generalize V 3=x3 at *;generalize V 4=x4 at *;clear V;have q2:=hc8.cell;have t:=iA.Ga 0 (a:=(1,1,2)) (by simp[dW,cD]);rw[show (ou Ot.1 0 (1,1,2) λl=>jx l (1,1,2))=Ou from rfl,EG.2.2.2.1]at t;replace t:=ae t;clear iA;go_wp2_with fail
 refine t.aa.mono ?_;rintro e w9⟨rfl,j⟩;have Td:=j.k sZ λ_ h=>.inl h
 have pG:=hc8.z j.2 (.inr rfl);have C8:=ae (j.1.round ax af);rw[show xB Ou.1=aw5 from rfl]at C8;clear t j sZ hc8 q2;go_wp2_with fail
 refine C8.aa.mono ?_;rintro e xg⟨rfl,j⟩;have Hx:=j.k Td λ_ h=>.inl h
 have ak6:=pG.z j.2 (.inr rfl);have C9:=ae (j.1.round ax af);rw[show xB aw5=aw6 from rfl]at C9;clear C8 j Td pG;go_wp2_with fail
 refine C9.aa.mono ?_;rintro e NR⟨rfl,j⟩;have k11:=j.k Hx λ_ h=>.inl h
 have ak7:=ak6.z j.2 (.inr rfl);have Z:=ae (j.1.round ax af);rw[show xB aw6=aw7 from rfl]at Z;clear C9 j Hx ak6;go_wp2_with fail
 refine Z.aa.mono ?_;rintro e w12⟨rfl,j⟩;have lO:=j.k k11 λ_ h=>.inl h
 have ak8:=ak7.z j.2 (.inr rfl);have I:=j.1.MH af 0;rw[show jr aw7 0=Dz from rfl,EG.2.2.2.2.2.1]at I;replace I:=ae I;clear Z j k11 ak7;go_wp2_with fail
 refine I.aa.mono ?_;rintro e w13⟨⟨v13,rfl,ak9⟩,j⟩;obtain⟨A13,c13,rfl⟩:=av ak9;rw[EG.2.2.2.2.1];have mm:=j.k lO λ_ h=>.inl h
 have ala:=ak8.z j.2 (.inr rfl);have X:=j.1;have G:=X.status 0 (1,1,2);rw[EG.2.2.2.2.2.2.1]at G;replace G:=ae G;have q13:=ala.cell;clear I j lO ak8 ak9;go_wp2_with fail
 refine G.aa.mono ?_;rintro e w14⟨rfl,rm⟩;have alb:=mm.tr rm;have A:=(X.st rm).Ma 1 0 qA;rw[show sB Dz.1 1=Ov from rfl,EG.2.2.2.2.2.2.2]at A;replace A:=ae A;clear G q13 ala X mm rm;go_wp2_with fail
 refine A.aa.mono ?_;rintro e w15⟨rfl,j⟩;have Fl:=j.k alb λ_ h=>.inl h
 have J:=j.1.begin af (c:=0) qA;rw[show jz Ov.1 0=Ow from rfl,Cw.1]at J;replace J:=ae J;clear A j alb;go_wp2_with fail
 refine J.aa.mono ?_;rintro e w16⟨rfl,j⟩;have Ts:=j.k Fl λ_ h=>.inl h
 have alc:=j.1;clear J j Fl;go_upto_region 13 with (fail);have kE:=K.new w16 (.cells #[.int .i64 0,.int .u64 0,.int .u64 0] 26);have Fj:=Ts.tr kE;have y:=(alc.st kE).LK af 1;rw[show lR Ow.1 1=Ox from rfl,Cw.2.1]at y;replace y:=ae y;generalize w16.alloc _=w17 at *;clear kE Ts alc;go_wp2_with fail
 refine y.aa.mono ?_;rintro e w18⟨rfl,j⟩;have Kk:=j.k Fj λ_ h=>.inl h
 have H:=j.1.MH af 0;rw[show jr Ox.1 0=rC from rfl,Cw.2.2.2.1]at H;replace H:=ae H;clear y j Fj;go_wp2_with fail
 refine H.aa.mono ?_;rintro e w19⟨⟨v19,rfl,ald⟩,j⟩;obtain⟨A19,c19,rfl⟩:=av ald;rw[Cw.2.2.1];have yj:=j.k Kk λ_ h=>.inl h
 have T:=j.1;have N:=T.ayT 0;rw[Cw.2.2.2.2.1]at N;have S:=T.got af ayU 0;replace N:=ae N;replace S:=ae S;have R:=ae T;clear H j Kk ald T;go_wp2_with fail
 refine N.aa.mono ?_;rintro e w20⟨rfl,rfl⟩;go_wp2_with fail
 refine S.aa.mono ?_;rintro e w21⟨v21,rfl,ale,F⟩;obtain⟨A21,c21,rfl⟩:=av ale;rw[Cw.2.2.2.2.2.1];have C19:=ae ((R.aa.st F).state 0);have alf:=yj.tr F;clear N S ale yj;go_wp2_with fail
 refine C19.aa.mono ?_;rintro e w22⟨vl,vp,va,rfl,hS,U⟩;obtain⟨⟨Al,cl,rfl⟩,-,-⟩:=hS.sl;rw[Cw.2.2.2.2.2.2.1];have fp:=aql;have B:=(R.aa.st (F.tr U)).busy 1;rw[Cw.2.2.2.2.2.2.2.1]at B;replace B:=ae B;have HU:=ae λW (k:K w22 W)=>(R.aa.st ((F.tr U).tr k)).up 1
 have alg:=alf.tr U;generalize kT rC.1 0=s at *;clear C19 hS alf R F U;go_wp2_with fail
 refine B.aa.mono ?_;rintro e w23⟨rfl,Bw⟩;have D:=HU.aa w23 Bw;rw[Cw.2.2.2.2.2.2.2.2]at D;replace D:=ae D;have aAX:=alg.tr Bw;clear B HU alg Bw;go_wp2_with fail
 refine D.aa.mono ?_;rintro e w24⟨rfl,rfl⟩;clear D;go_wp2;go_ret;exact⟨rfl,aAX⟩
section
open Go Go.RowKit Go.ChangeShapes Go.WideShapes Go.ChangeAt
def XU(w:World)(v:Value):Prop:=∃l:List Int,aq cQ l v w/\∀n∈l,cD n
section
variable {H:Type} {enc:TypeId×Value->H} {w:World} {base:Nat} {r:Reach} {b0:Nat} {spare:Nat->Bool} {held:Bool} {v:Value} {d:DataW H} {p:List MemPlace}
theorem adr(y:Value.okWide prog w r b0 23 v)(h:DataW.Trod enc prog w base spare held 23 v d p):XU w v:=by
 obtain⟨A,n,c,css,rfl,D,j,E,C,B⟩:=aoP underlying23 1 fB (λcs=>∃n:Int,cs=[.int .i64 n]/\cD n) (λ_ _ _ _ u=>adB u) y h;obtain⟨l,h6,h7,h8⟩:=abL (λn:Int=>[Value.int .i64 n]) cD css λcs t=>(C cs t).2
 have h9:=B ax;subst D;rw[<- h6]at h9 j⊢;exact⟨l,⟨A,c,rfl,⟨l.map AO,FG _ _,by rw[h7]at h9;exact h9⟩,j⟩,h8⟩
end
end
