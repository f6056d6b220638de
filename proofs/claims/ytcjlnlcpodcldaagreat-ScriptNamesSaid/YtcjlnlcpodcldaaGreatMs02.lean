/-
  The walks of tree.Check, tree.broker, tree.Up (layer 12). Conditions: lists of at most a million.
-/
import Derived.Test.YtcjlnlcpodcldaaGreatMs01
import Derived.Test.YtcjlnlcpodcldaaGreatMsz
set_option maxRecDepth 100000
set_option maxHeartbeats 16000000
set_option linter.all false
namespace Go.Proofs.YtcjlnlcpodcldaaGreat
open Go Go.RowKit _root_.Go.Proofs.Tryz
open List renaming length→Q
open _root_.Array renaming size→Z
open Go.World renaming heap→D,alloc→aU,setCell→aV
open Go.Value renaming ownBlock→aW
open Go.Value renaming int→G,slice→F,pointer→aj,bool→ar,tuple→au,agg→av,string→aw
open Go.IntKind renaming i64→J,u64→E
open Option renaming none→U,some→I
open Go.Ending renaming returned→ak
open Go.Obj renaming cells→aq
open Go.World renaming setCell→ax,alloc→ay
open Bool renaming false→az,true→aA
open And renaming intro→aB
open List renaming lookup→aC,getElem?_eq_getElem→aE,getElem?_eq_some_iff→aF
open _root_.Array renaming getElem?_toList→aD,getElem?_eq_some_iff→aG
open Nat renaming le_succ→aH
open Or renaming inl→aI,inr→aJ
open Go renaming Calls→aK,execOp→aL,bodyPost_ret→aM,World→aP,Value→aQ
open Go.RowKit renaming Below→aN,intOf→aO
theorem ints_at{p A w}(t:xu eu p A w)(C:0<Q p) :
 ∃b j,A=I ⟨b,j,U⟩/\∀W,K w W->∀i (y:i<Q p),W.cell? ⟨b,j+i,U⟩=I (G J p[i]):=by
 obtain⟨b,j,cs,rfl,-,-,-,-⟩:=eN t 0 C bC
 refine⟨b,j,rfl,λW k i y=>?_⟩
 obtain⟨L,M,z,e,-,B,H,-⟩:=eN t i y bC
 injection e with e
 injection e with e1 e2
 subst e1 e2
 have h:=H W k
 rw[show z=Dp p[i]from B W k]at h
 simpa [eu]using h
def y7(p:List Int):Int:=if iQ p then 0 else 120
theorem Hu{p}:iQ p=aA↔1<=Q p/\Q p<=16/\p[0]?=I (-1)/\∀n (h:n<Q p),1<=n->0<=p[n]/\p[n]<(n:Int):=by
 simp only[iQ,fB,decide_eq_true_eq,xW,List.mem_range,Bool.or_eq_true,beq_iff_eq,and_assoc]
 grind
theorem ud{p}(h:iQ p=aA):1<=Q p/\Q p<=16:=⟨(Hu.1 h).1,(Hu.1 h).2.1⟩
theorem MC p v w(h:bw eu p v w)(hn:Q p<=1000000) :
 aK prog 37 #[v] w λe w'=>e=ak (G J (y7 p))/\K w w':=by
 obtain⟨A,c,rfl,M,-⟩:=h
 have y:Hid (y7 p=if iQ p then 0 else 120):=aY rfl
 generalize y7 p=R at *
 have no:Hid (∀_:¬iQ p=aA,R=120):=aY λh=>by rw[y.aX,bO h]
 have yes:Hid (∀_:iQ p=aA,R=0):=aY λh=>by rw[y.aX,bT h]
 have kk:=K.rf w
 clear y
 go_in
 by_cases h0:Q p<1
 ·have h0':(Q p:Int)<1:=aZ;exact ajl
 have h0':¬(Q p:Int)<1:=aZ
 by_cases t:16<Q p
 ·have h1':16<(Q p:Int):=aZ;exact ajl
 have h1':¬16<(Q p:Int):=aZ
 obtain⟨b,T,rfl,z⟩:=ints_at M aZ
 have C:0<Q p:=aZ
 have c0:w.cell? ⟨b,T,U⟩=I (G J p[0]):=z w kk 0 C
 have S:=aY (aE C)
 have W:=aY (z w kk)
 clear z M
 generalize p[0]=H at *
 by_cases h2:H=-1
 rotate_left
 ·have IZ:(H != -1)=true:=AQ;have HR:=aY (no.aX λh=>by have:=(Hu.1 h).2.2.1;rw[S.aX]at this;injection this with this;exact h2 this);clear h2;exact CJ
 subst h2
 go_wp2_with fail
 go_loop [3] (fun i=>∃j:Nat,1<=j/\j<=Q p/\i=G J j/\Hid (∀n (h:n<Q p),1<=n->n<j->0<=p[n]/\p[n]<(n:Int))) (fun i=>Q p-(aO i).toNat)
 case atStart=>exact⟨1,aZ,aZ,rfl,aY λn _ t h2=>aZ⟩
 case round =>
  obtain⟨j,V,hj,rfl,N⟩:=hrel;by_cases O:j<Q p
  ·have cd:(j:Int)<Q p:=aZ;have cj:=W.aX j O;have HB:Hid (0<=p[j]/\p[j]<(j:Int)->∀n (h:n<Q p),1<=n->n<j+1->0<=p[n]/\p[n]<(n:Int)):=aY λh n hn t h2=>by
    by_cases e:n=j
    ·subst e;exact h
    ·exact N.aX n hn t aZ
   have B:Hid (¬(0<=p[j]/\p[j]<(j:Int))->R=120):=aY λh=>no.aX λY=>h ((Hu.1 Y).2.2.2 j O V)
   generalize p[j]=L at *;by_cases h3:L<0
   ·have HR:=aY (B.aX aZ);exact CJ
   by_cases h4:(j:Int)<=L
   ·have HR:=aY (B.aX aZ);exact CJ
   have X:=aY (HB.aX aZ);go_wp2;go_round
   case rel=>exact⟨j+1,aZ,aZ,cU,X⟩
   case measure=>simp[aO];omega
  ·have cd:¬(j:Int)<Q p:=aZ;have HR:=aY (yes.aX (Hu.2 ⟨aZ,aZ,S.aX,λn hn t=>N.aX n hn t aZ⟩));exact CJ
def uL(p:List Int)(n:Int):Bool:=iJ p n&&iQ p
theorem Ww p n v w(h:bw eu p v w)(hn:Q p<=1000000) :
 aK prog 282 #[v,G J n] w λe w'=>e=ak (ar (uL p n))/\K w w':=by
 have t:=aY λW (k:K w W)=>MC p v W (cH h k) hn
 obtain⟨A,c,rfl,y,-⟩:=h
 have HC:Hid (uL p n=((decide (0<=n)&&decide (n<(Q p:Int)))&&iQ p)):=aY rfl
 have j:Hid (y7 p=if iQ p then 0 else 120):=aY rfl
 generalize uL p n=R at *
 generalize y7 p=T at *
 have kk:=K.rf w
 go_in
 by_cases h0:0<=n
 rotate_left
 ·exact ajm
 by_cases h1:n<(Q p:Int)
 rotate_left
 ·have HR:Hid (R=az):=aY (by rw[HC.aX];simp[h1]);exact CJ
 have HR:Hid (R=iQ p):=aY YR
 go_wp2_with fail
 apply bN (t.aX w kk)
 intro z k1
 cases ho:iQ p
 ·obtain rfl:T=120:=by rw[j.aX,ho];rfl
  have ku:Hid (R=az):=aY (by rw[HR.aX,ho]);go_wp2;exact Su
 ·obtain rfl:T=0:=by rw[j.aX,ho];rfl
  have ku:Hid (R=aA):=aY (by rw[HR.aX,ho]);go_wp2;exact Su
theorem axo p a b v w(h:bw eu p v w)(hn:Q p<=1000000) :
 aK prog 284 #[v,G J a,G J b] w λe w'=>e=ak (ar (E9 p a b))/\K w w':=by
 have y:=aY λW (k:K w W)=>Ww p a v W (cH h k) hn
 have H:=aY λW (k:K w W)=>Ww p b v W (cH h k) hn
 obtain⟨A,c,rfl,C,-⟩:=h
 have HC:Hid (E9 p a b=(uL p a&&uL p b&&E8 p a (Q p+1) b)):=aY (by unfold E9 uL;cases iJ p a <;> cases iJ p b <;> cases iQ p <;> rfl)
 generalize E9 p a b=R at *
 have L:Hid (uL p b=aA->iQ p=aA/\0<=b/\b<(Q p:Int)):=aY aA5
 have z:Hid (uL p a=aA->iQ p=aA):=aY (by unfold uL;simp)
 have T:=K.rf w
 go_in
 go_wp2
 go_step3
 go_wp2_with fail
 apply bN (y.aX w T)
 intro V k1
 cases Lt:uL p a
 ·have HR:Hid (R=az):=aY (by rw[HC.aX,Lt];rfl);clear Lt;exact ajn
 have Y:=aY (z.aX Lt)
 go_wp2_with fail
 apply bN (H.aX V k1)
 intro w2 B
 replace k1:=k1.tr B
 cases rh:uL p b
 ·have HR:Hid (R=az):=aY ajo;clear Lt rh;exact ajn
 have HR:Hid (R=E8 p a (Q p+1) b):=aY ajo
 obtain⟨-,hb0,cD⟩:=L.aX rh
 obtain⟨bl,off,rfl,M⟩:=ints_at C aZ
 have X:=aY M
 clear Lt rh HC L z y H M C B
 go_wp2_with fail
 go_step3
 go_wp2_with fail
 go_loop [2,7] (fun t O=>∃(f:Nat) (n:Int),t=G J n/\O=ar az/\-1<=n/\n<(Q p:Int)/\n+1<(f:Int)/\Hid (R=E8 p a f n)) (fun t _=>(aO t+1).toNat)
 case atStart=>exact⟨Q p+1,b,rfl,rfl,aZ,aZ,aZ,HR⟩
 case round =>
  clear HR;obtain⟨f,n,rfl,rfl,fF,nE,hf,HR⟩:=hrel;obtain⟨f,rfl⟩:∃f',f=f'+1:=⟨f-1,aZ⟩;by_cases S:0<=n
  ·by_cases j:a=n
   ·subst j;have ku:Hid (R=aA):=aY (by rw[HR.aX,E8,bO (by omega),bT rfl]);go_wp2;try rw[jt]
    exact Su
   ·have:(a==n)=false:=by simpa using j
    obtain⟨m,rfl⟩:=Int.eq_ofNat_of_zero_le S;have hm:m<Q p:=aZ;have:=X.aX w2 k1 m hm;have ku:Hid (R=E8 p a f p[m]):=aY (by rw[HR.aX,E8,bO (by omega),bO j];simp[hm]);have N:-1<=p[m]/\p[m]<(m:Int):=by
     have:=Hu.1 Y.aX
     by_cases h1:m=0
     ·grind
     grind
    clear j HR;generalize p[m]=q at *;obtain⟨gX,om⟩:=N;go_wp2;go_round
    case rel=>exact⟨f,q,rfl,rfl,aZ,aZ,aZ,ku⟩
    case measure=>simp[aO];omega
  ·have:n<0:=aZ;have ku:Hid (R=az):=aY (by rw[HR.aX,E8,bT (by omega)]);go_wp2;try rw[jt]
   exact Su
section
open Go Go.RowKit Go.Shelf
attribute [local go_sem] Oper.semAt_some
def Bc(p:List Int)(n:Int)(j:Nat):List Int:=((List.range j).filter λk=>decide (p[k]?=I n)).map λ(k:Nat)=>(k:Int)
theorem aue(p:List Int)(n:Int)(j:Nat)(h:j<Q p):Bc p n (j+1)=Bc p n j++(if p[j]=n then [(j:Int)]else []):=by
 unfold Bc;rw[List.range_succ,List.filter_append,List.map_append];congr 1;by_cases e:p[j]=n
 ·rw[bT e,List.filter_cons_of_pos (by simpa [h]using e)];rfl
 ·rw[bO e,List.filter_cons_of_neg (by simpa [h]using e)];rfl
theorem avC p n j(h:j<=Q p):Bc p n j <+: um p n:=by
 unfold Bc um
 have:List.range (Q p)=List.range j++(List.range (Q p-j)).map (j+·):=by rw[show Q p=j+(Q p-j) by omega,List.range_add];simp
 grind
theorem axp p n:Q (um p n)<=Q p:=by
 grind [um]
def GC(B b:Nat)(W W':aP):Prop:=W'.heap[B]?=W.heap[B]?/\W'.heap[b]?=W.heap[b]?
theorem GC.tr{B b W W' j}(h:GC B b W W')(k:GC B b W' j):GC B b W j:=⟨k.1.trans h.1,k.2.trans h.2⟩
theorem axq l B z b M c p n(y O:List Int->aP->Prop)
 (T:∀pre x W,y pre W->Q pre<Q (um p n)->YieldAt Fence.wide 4 prog l #[G J x] W λe W' =>
  (e=ak (ar aA)/\y (pre++[x]) W'/\GC z b W W')∨(e=ak (ar az)/\O (pre++[x]) W'))
 W (h1:W.cell? ⟨B,0,U⟩=I (F (I ⟨b,M,U⟩) (Q p) c)) (h2:W.cell? ⟨z,0,U⟩=I (G J n))
 (hcell:∀i (hi:i<Q p),W.cell? ⟨b,M+i,U⟩=I (G J p[i])) (hlen:Q p<=1000000) (h0:y [] W) :
 CallsIn Fence.wide 5 prog 308 #[.func (.yield l) #[] #[],aj (I ⟨B,0,U⟩),aj (I ⟨z,0,U⟩)] W λe W'=>(∃v,e=ak v) /\
  ((∃L,L=um p n/\y L W')∨(∃pre,pre <+: um p n/\O pre W')):=by
 refine callsIn_of_wp func308 rfl trivial ?_ rfl
 simp only[ntmps308,List.size_toArray,fY,List.length_nil,Nat.reduceAdd,Nat.reduceSub,Array.replicate_succ,Array.replicate_zero,List.push_toArray,List.append_toArray,bU,bZ]
 gi_wp2
 gi_loopw [4,5,8] (λ_ _ i wr=>∃j:Nat,i=G J j/\j<=Q p/\y (Bc p n j) wr/\GC z b W wr) (λ_ _ i _=>Q p-(aO i).toNat)
 case atStart=>exact⟨0,rfl,aZ,h0,rfl,rfl⟩
 case round =>
  obtain⟨j,rfl,hj,t,hk⟩:=hrel;by_cases S:j<Q p
  ·have cd:(j:Int)<Q p:=aZ;have cj:=(World.cell?_of_block hk.2).trans (hcell j S);have c2:=(World.cell?_of_block hk.1).trans h2;have X:=aue p n j S;have hp:=avC p n (j+1) aZ;have R:=aY X;have C:=aY hp;generalize p[j]=q at *;by_cases e:q=n
   ·subst e;have A:Hid (Bc p q (j+1)=Bc p q j++[(j:Int)]):=aY (by rw[R.aX,bT rfl]);obtain⟨fn,tmps,assign,body,hy,hR⟩:=T (Bc p q j) j wr t (by have:=C.aX.length_le;rw[A.aX]at this;simp at this;omega);gi_wp2;refine hR.mono ?_;rintro e W3 (⟨rfl,N,V⟩|⟨rfl,H⟩)
    ·rw[<- A.aX]at N;gi_wp2;go_roundw
     case rel=>exact⟨j+1,cU,aZ,N,hk.tr V⟩
     case measure=>simp[aO];omega
    ·rw[<- A.aX]at H;gi_wp2;refine aM (results_none rfl _ _ _) rfl ?_;exact⟨⟨_,rfl⟩,aJ ⟨_,C.aX,H⟩⟩
   ·have e':(q==n)=false:=Ny;rw[show Bc p n j=Bc p n (j+1) by rw[R.aX,bO e];simp]at t;gi_wp2;refine⟨(λf Y=>by cases Y),?_⟩;gi_wp2;go_roundw
    case rel=>exact⟨j+1,cU,aZ,t,hk⟩
    case measure=>simp[aO];omega
  ·have cd:¬(j:Int)<Q p:=aZ;obtain rfl:j=Q p:=aZ;gi_wp2;go_end0;first|exact⟨⟨_,rfl⟩,aI ⟨_,rfl,t⟩⟩|exact⟨⟨_,rfl⟩,aI t⟩|exact t|exact aI t
end
section
open Go Go.RowKit Go.Shelf
attribute [local go_sem] Oper.semAt_some
abbrev Ow(l:List Int):List aQ:=l.map λn=>G J n
theorem aCA:(prog.info? 3).map (λi=>(i.zero,i.size,i.bytes))=I (I (G J 0),1,8):=by rfl
theorem Fc:ir prog 23 3 (G J 0) 1 8:=⟨underlying23,aCA,rfl,bC⟩
theorem azF{base v l W}(h:W.ownsRow base 3 1 v (Q l) (Ow l)):bK (λk=>k<base) base 3 eu l v W :=
 ⟨l.map Dp,by rw[Xo];exact h,bq,λw' _=>Hj l w'⟩
theorem auf(p:List Int) n A c w :
 aK prog 283 #[F A (Q p) c,G J n] w λe w'=>e=ak (.func (.func 308) #[] #[aj (I ⟨Z (D w),0,U⟩),aj (I ⟨Z (D w)+1,0,U⟩)])/\w'=(aU w (aq #[F A (Q p) c] 23)).alloc (aq #[G J n] 3):=by
 go_in
 go_wp2
 go_ret
 exact⟨bq,rfl⟩
theorem aug p n v w(h:bw eu p v w)(hn:Q p<=1000000) :
 aK prog 232 #[v,G J n] w λe w'=>∃v',e=ak v'/\bK (λk=>k<Z (D w)) (Z (D w)) 3 eu (Iq p n) v' w'/\K w w':=by
 have C1:=aY λW (k:K w W)=>Ww p n v W (cH h k) hn
 obtain⟨A,c,rfl,hl,-⟩:=h
 have Y:Hid (Iq p n=if uL p n then um p n else []):=aY rfl
 have HB:Hid (uL p n=aA->0<Q p):=aY aA6
 generalize Iq p n=R at *
 have kk:=K.rf w
 refine (callsIn_wide (n:=6)).1 ?_
 refine callsIn_of_wp_marks func232 rfl trivial ?_ rfl
 simp only[ntmps232,List.size_toArray,fY,List.length_nil,Nat.reduceAdd,Nat.reduceSub,Array.replicate_succ,Array.replicate_zero,List.push_toArray,List.append_toArray,bU,bZ]
 gi_wp2_with fail
 refine⟨trivial,(callsIn_wide.2 (C1.aX w kk)).mono ?_⟩
 rintro e C⟨rfl,k1⟩
 cases hb:uL p n
 ·have V:Hid (R=[]):=aY (by rw[Y.aX,hb];rfl);clear hb;gi_wp2;exact⟨_,results_tmp rfl _ _ _,_,rfl,by rw[V.aX];exact bK.nil _ _ _ _ _,k1⟩
 have V:Hid (R=um p n):=aY (by rw[Y.aX,hb];rfl)
 obtain⟨b,y,rfl,hcell⟩:=ints_at hl (HB.aX hb)
 have fw:b<Z (D w):=J7 (hcell w kk 0 (HB.aX hb))
 have yE:=aY hcell
 clear hb Y HB C1 hl hcell
 gi_wp2_with fail
 refine⟨trivial,(callsIn_wide.2 (auf p n _ c _)).mono ?_⟩
 rintro e z⟨rfl,rfl⟩
 have fG:=((Boxed.new C 23 (F U 0 0)).alloc (aq #[F (I ⟨b,y,U⟩) (Q p) c] 23)).alloc (aq #[G J n] 3)
 have T:=(Boxed.new (aU C (aq #[F U 0 0] 23)) 23 (F (I ⟨b,y,U⟩) (Q p) c)).alloc (aq #[G J n] 3)
 have M:=Boxed.new ((aU C (aq #[F U 0 0] 23)).alloc (aq #[F (I ⟨b,y,U⟩) (Q p) c] 23)) 3 (G J n)
 have k2:K w (((aU C (aq #[F U 0 0] 23)).alloc (aq #[F (I ⟨b,y,U⟩) (Q p) c] 23)).alloc (aq #[G J n] 3)):=((k1.al _).al _).al _
 simp only[World.size_alloc]at T M⊢
 have hz1:=k1.size
 have aDY:=aY (yE.aX _ k2)
 generalize ((aU C (aq #[F U 0 0] 23)).alloc (aq #[F (I ⟨b,y,U⟩) (Q p) c] 23)).alloc (aq #[G J n] 3)=z at *
 generalize hg:Z (D C)=B0 at *
 clear hg yE
 gi_wp2_with fail
 refine wpIn_rangeFunc_ownF rfl aZ (gf:=308) (lb:=#[aj (I ⟨B0+1,0,U⟩),aj (I ⟨B0+1+1,0,U⟩)]) rfl trivial (enters_of func308 dz rfl)
  (encs:=λx:Int=>#[G J x]) (Kp:=GC (B0+1+1) b) (S:=λys=>ys=um p n) (Sp:=λpre=>pre <+: um p n) (N:=Q (um p n)) (w0:=z)
  (λl ae Jx W hW _ _ hY h0=>axq l (B0+1) (B0+1+1) b y c p n ae Jx hY W ((World.cell?_of_block (hW.block _ T.lt)).trans T.cell) ((World.cell?_of_block (hW.block _ M.lt)).trans M.cell)
   (λi hi=>(World.cell?_of_block (hW.block _ (show b<_ by have:=k2.size;omega))).trans (aDY.aX i hi)) hn h0)
  (λh k=>h.tr k) (λW l o o' h1 _ _ _=>⟨World.putObj_heap_other (by have:=M.lt;omega),World.putObj_heap_other (by have:=k2.size;omega)⟩) (ed _ _) (λ_=>rfl)
  (λpre W=>∃v,Boxed W B0 23 v/\W.ownsRow (Z (D z)) 3 1 v (Q pre) (Ow pre)/\aN (Z (D w)) w W/\Z (D z)<=Z (D W))
  (λ_ _ _=>False) ?own (λ_ _ _ _ _ hs _ _=>hs) ⟨_,fG,mr _ _ _ _,k2,bL _⟩
  (λx=>{ tmps:=#[F (I ⟨b,y,U⟩) (Q p) c,G J n,undef,undef,F U 0 0,aj (I ⟨B0,0,U⟩),G J x,F (I ⟨b,y,U⟩) (Q p) c,G J n,ar aA,ar az,F (I ⟨b,y,U⟩) (Q p) c,G J n,.func (.func 308) #[] #[aj (I ⟨B0+1,0,U⟩),aj (I ⟨B0+1+1,0,U⟩)],G J x,undef,undef,undef,undef,undef],defers:=[] }) ?assign ?body ?done ?stop
 case own => exact ajp
 case assign => intro l x W K hK;gi_wp2;exact hK
 case body =>
  rintro l pre x W⟨v,hv,hrow,hB,Pk⟩ hpl;have q:=hv.cell;have hul:=axp p n;have KM:=sK hrow (aq #[G J x] 3);have cD:=bn.new W 3 #[G J x];obtain⟨i,hi,hz0,mf,lq⟩:=Fc.fit;gi_wp2_with (gi_at_builtin;refine wpListIn_append_own _ rfl _ _ 23 rfl (Z (D z)) 3 i (G J 0) 1 8 underlying23 hi hz0 mf lq rfl bC v (Q pre) (Ow pre) rfl KM ⟨Z (D W),0,U⟩ 1 1 [G J x] rfl rfl ?c1 ?c2 ?c3 ?c4 ?c5 ?_)
  case c1 =>
   intro j u H;have:j=0:=by
    grind
   subst this;have h:=cD.cell 0;simp at H⊢;rw[<- H];simp[Addr.add]
  case c2=>intro u H;simp at H;subst H;rfl
  case c3=>unfold maxLen;omega
  case c4=>omega
  case c5=>simp;omega
  intro v' w' hown' hgrow _;obtain⟨g',cap',L⟩:∃g cap,v'=F (I ⟨g,0,U⟩) (Q pre+1) cap:=ajq;rw[L]at hown'⊢;clear L;obtain⟨v',L⟩:∃v',v'=F (I ⟨g',0,U⟩) (Q pre+1) cap':=⟨_,rfl⟩;rw[<- L]at hown';have hne:I B0≠aW v:=λe=>by have:=(hrow.lt B0 e.symm).1;have:=fG.lt;omega
  have zG:=(hv.alloc _).kept hgrow hne;have q1:=zG.cell;have z1:=zG.frozen;have Ox:aW v'≠I B0:=λe=>by have:=(hown'.lt B0 e).1;have:=fG.lt;omega
  have u :=
   ((bf.bS ((K.rf W).al (aq #[G J x] 3)) _).tr (bf.gy hgrow λg hg=>aJ (KM.lt g hg).1)).tr (bf.dc (X:=λk=>k=B0∨Z (D z)<=k) (aI rfl) 0 v')
  have UH:KeepsOthers W (aV w' ⟨B0,0,U⟩ v'):=by refine ((KeepsOthers.alloc W (aq #[G J x] 3)).trans (KeepsOthers.of_grownBy hgrow λj o ej hj=>?_)).trans (KeepsOthers.setCell _ _ _);exact ajr
  have O:Boxed (aV w' ⟨B0,0,U⟩ v') B0 23 v'/\(aV w' ⟨B0,0,U⟩ v').ownsRow (Z (D z)) 3 1 v' (Q (pre++[x])) (Ow (pre++[x]))/\aN (Z (D w)) w (aV w' ⟨B0,0,U⟩ v')/\Z (D z)<=Z (D (aV w' ⟨B0,0,U⟩ v')):=by
   refine⟨zG.set v',?_,⟨u.os.trans hB.os,u.tape.trans hB.tape,u.output.trans hB.output,cI hB.size u.size,λk hk=>(u.block k (cQ hk hB.size) λh=>?_).trans (hB.block k hk)⟩,cI Pk u.size⟩
   ·exact ajs
   ·have:=k2.size;omega
  have O2:GC (B0+1+1) b W (aV w' ⟨B0,0,U⟩ v'):=by have h2:=M.lt;have h3:=k2.size;exact⟨u.block _ aZ aZ,u.block _ aZ aZ⟩
  subst L;gi_wp2;exact⟨UH,O2,_,O.1,O.2.1,O.2.2.1,O.2.2.2⟩
 case done =>
  rintro aT ys W hD rfl⟨v,hv,hrow,hB,Pk⟩ hK;have q:=hv.cell;have hr:(W.putObj aT (.deferred U)).ownsRow (Z (D w)) 3 1 v (Q (um p n)) (Ow (um p n)):=Hr (oy k2.size hrow) λg _ _ h2=>World.putObj_heap_other λe=>by exact ajt
  have HV:=aY (azF hr);have HI:=aY (belowK_b (n₀:=Z (D w)) (w:=z) k2.size W aT _ (.deferred U) hD hK rfl rfl);gi_wp2;refine⟨bq,aI ⟨_,_,rfl,run_takeDeferred hK,?_⟩⟩;exact⟨_,results_tmp rfl _ _ _,_,rfl,by rw[V.aX];exact HV.aX,hB.trans HI.aX⟩
 case stop => simp
end
section
open Go Go.RowKit Go.Shelf
attribute [local go_sem] Oper.semAt_some
theorem auh b w :
 aK prog 289 #[.map (I b)] w λe w'=>e=ak (.func (.func 315) #[] #[aj (I ⟨Z (D w),0,U⟩)])/\w'=w.alloc (aq #[.map (I b)] 160):=by
 go_in
 go_wp2
 go_ret
 exact⟨bq,rfl⟩
theorem ahr{α:Type}:∀(L:List α) (i:Nat) (h:i<Q L),(L[i] :: L.eraseIdx i).Perm L
 | [],i,h=>yY
 | x :: l,0,_=>bq
 | x :: l,i+1,h=>by have j:i<Q l:=Er;simp only[List.getElem_cons_succ,List.eraseIdx_cons_succ];exact (List.Perm.swap _ _ _).trans ((ahr l i j).cons x)
theorem avD{α:Type}{pre L M:List α}(h:(pre++L).Perm M) i(j:i<Q L):(pre++[L[i]]++L.eraseIdx i).Perm M:=by refine List.Perm.trans ?_ h;rw[fN];exact List.Perm.append_left pre (ahr L i j)
theorem axr l H b bu(t O:List cB->aP->Prop)
 (V:∀pre x W,t pre W->Q pre<Q bu->YieldAt Fence.wide 4 prog l #[nS x] W λe W' =>
  (e=ak (ar aA)/\t (pre++[x]) W'/\KeepsWalks W W')∨(e=ak (ar az)/\O (pre++[x]) W'))
 W (A:AbidesFrom (Z (D W)) t) (h1:W.cell? ⟨H,0,U⟩=I (.map (I b))) (hm:fC nS W b bu) (h0:t [] W) :
 CallsIn Fence.wide 5 prog 315 #[.func (.yield l) #[] #[],aj (I ⟨H,0,U⟩)] W λe W'=>(∃v,e=ak v) /\
  ((∃j:List cB,j.Perm (bu.map (·.1))/\t j W')∨(∃pre:List cB,True/\O pre W')):=by
 refine callsIn_of_wp func315 rfl trivial ?_ rfl
 simp only[ntmps315,List.size_toArray,fY,List.length_nil,Nat.reduceAdd,Nat.reduceSub,Array.replicate_succ,Array.replicate_zero,List.push_toArray,List.append_toArray,bU,bZ]
 gi_wp2_with (first|(gi_at_range;refine arZ _ rfl _ 160 rfl _ _ underlying160 b bu rfl hm ?_;intro w0 fH hg0 hs0)|gi_in)
 go_frame
 generalize hB:Z (D W)=B at *
 gi_loopw [3,6,7,8,9,10,11,12,13] (λ_ _ _ _ _ _ _ _ _ wr=>∃(j L:List cB),uq nS wr b B bu L/\(j++L).Perm (bu.map (·.1))/\t j wr) (λ_ _ _ _ _ _ _ _ _ wr=>wr.rangeLeft b B)
 case atStart=>exact⟨[],_,fH,bq,A [] W w0 U h0 hg0 (λr e=>AU)⟩
 case round =>
  obtain⟨j,L,z,hp,hJs⟩:=hrel;gi_wp2_with (first|(gi_at_next;refine ar9 _ rfl _ rfl b B bu L rfl z ?_ ?_)|gi_in)
  ·intro R;subst R;gi_wp2;go_end0;grind
  ·intro i hi v y cZ gg gH hen;have T:=A j wr y (I B) hJs gg (λr e=>by cases e;exact⟨bL _,z.walk⟩);have hp2:=avD hp i hi;have S:Q j<Q bu:=by have:=hp.length_eq;simp at this;omega
   generalize hL':L.eraseIdx i=C at *;have gj:Q C<Q L:=bG;generalize L[i]=x at *;have DT:t j (aU y (aq (dZ x) 42)):=A j y _ U T (World.grownBy_alloc _ _ _) (λr e=>AU);have X:uq nS (aU y (aq (dZ x) 42)) b B bu C:=cZ.walks (KeepsWalks.of_grownBy (World.grownBy_alloc _ _ U) (λ_ _ e=>AU));obtain⟨fn,tmps,assign,body,hy,N⟩:=V j x _ DT S;obtain⟨x0,x1,x2⟩:=x;simp only[nS]at hen hy N⊢;gi_wp2;refine N.mono ?_;rintro e W3 (⟨rfl,hJ4,Y⟩|⟨rfl,aa6⟩)
   ·gi_wp2;have M:=X.walks Y;go_roundw
    case rel=>exact⟨_,C,M,hp2,hJ4⟩
    case measure=>rw[M.left,z.left];exact gj
   ·gi_wp2;refine aM (results_none rfl _ _ _) rfl ?_;grind
end
section
open Go Go.RowKit Go.Shelf
attribute [local go_sem] Oper.semAt_some
theorem aA7{W W' g t cs}(h:bn W g t cs){row}(hg:W.grownBy W' row)(y:∀r,row=I r->∃o:Obj,W.heap[r]?=I o/\o.isCells=az):bn W' g t cs :=
 (hg.block g h.lt λe=>by
  obtain⟨o,j,z⟩:=y g e.symm;unfold bn at h;rw[h]at j;cases j;cases z).trans h
theorem asa b H bu w(h1:w.cell? ⟨H,0,U⟩=I (.map (I b)))(hm:fC nS w b bu)(hlen:Q bu<=1000000) :
 aK prog 337 #[F U 0 0,.func (.func 315) #[] #[aj (I ⟨H,0,U⟩)]] w λe w'=>∃(v':aQ) (M:List cB),e=ak v'/\M.Perm (bu.map (·.1))/\w'.ownsRow (Z (D w)) 42 3 v' (Q M) (M.flatMap gY)/\K w w':=by
 have fG:=Boxed.new w 53 (F U 0 0)
 have k2:=K.new w (aq #[F U 0 0] 53)
 have hm2:=hm.st k2
 have Lv:H<Z (D w):=J7 h1
 have h12:=(k2.cell (p:=⟨H,0,U⟩) Lv).trans h1
 refine (callsIn_wide (n:=6)).1 ?_
 refine callsIn_of_wp_marks func337 rfl trivial ?_ rfl
 simp only[ntmps337,List.size_toArray,fY,List.length_nil,Nat.reduceAdd,Nat.reduceSub,Array.replicate_succ,Array.replicate_zero,List.push_toArray,List.append_toArray,bU,bZ]
 gi_wp2_with fail
 generalize w.alloc _=L at *
 generalize hg:Z (D w)=B0 at fG⊢
 have HG:=aY hg
 clear hg hm h1
 have Gs:H<Z (D L):=J7 h12
 refine wpIn_rangeFunc_ownH rfl aZ (gf:=315) (lb:=#[aj (I ⟨H,0,U⟩)]) rfl trivial (enters_of func315 dz rfl)
  (encs:=λx:cB=>#[nS x]) (Kp:=KeepsWalks) (S:=λM:List cB=>M.Perm (bu.map λp:cB×aQ=>p.1)) (Sp:=λ_=>True) (N:=Q bu) (w0:=L)
  (λl ae Jx W hW hJ _ hY h0=>axr l H b bu ae Jx hY W hJ ((hW.cell (p:=⟨H,0,U⟩) Gs).trans h12) (hm2.st hW) h0)
  walksK_t walksK_b (ed _ _) (λ_=>rfl)
  (λpre W=>∃v,Boxed W B0 53 v/\W.ownsRow (Z (D L)) 42 3 v (Q pre) (pre.flatMap gY)/\aN (Z (D w)) w W/\Z (D L)<=Z (D W))
  (λ_ _ _=>False) ?own (λ_ _ _ _ _ hs _ _=>hs) ⟨_,fG,mr _ _ _ _,k2,bL _⟩
  (λx a' W=>∃O,Z (D L)<=O/\bn W O 42 (dZ x)/\a'={ tmps:=#[F U 0 0,.func (.func 315) #[] #[aj (I ⟨H,0,U⟩)],aj (I ⟨B0,0,U⟩),undef,F U 0 0,aj (I ⟨O,0,U⟩),.func (.func 315) #[] #[aj (I ⟨H,0,U⟩)],av (dZ x),undef,undef,undef,undef,undef],defers:=[] })
  (λx a' _ X Y row hs hg hr=>by obtain⟨O,T,g2,g3⟩:=hs;exact⟨O,T,aA7 g2 hg λr e=>(hr r e).2,g3⟩) ?assign ?body ?done ?stop
 case own => exact ajp
 case assign => rintro l pre⟨y,C,z⟩ W K ⟨v,hv,hrow,hB,hz⟩ hK;have T:KeepsOthers W (aU W (aq (dZ (y,C,z)) 42)):=KeepsOthers.alloc _ _;have g2:=sK hrow (aq (dZ (y,C,z)) 42);have g3:=hB.alloc hB.size (aq (dZ (y,C,z)) 42);have g4:=hv.alloc (aq (dZ (y,C,z)) 42);have g5:=bn.new W 42 (dZ (y,C,z));simp only[nS];gi_wp2;exact hK _ _ (T.from _) T.walks ⟨v,g4,g2,g3,cG⟩ ⟨Z (D W),hz,g5,rfl⟩
 case body =>
  rintro l pre⟨y,C,z⟩ a' W hl ⟨r,hr⟩ ⟨v,hv,hrow,hB,Pk⟩ ⟨O,hBx,bX,rfl⟩ hpl;have q:=hv.cell;have q2:=bX.cells;have KM:=sK hrow (aq (dZ (y,C,z)) 42);have cD:=bn.new W 42 (dZ (y,C,z));obtain⟨i,hi,hz0,mf,lq⟩:=wg.fit;have kk:=K.rf W;gi_wp2_with (gi_at_builtin;refine wpListIn_append_own _ rfl _ _ 53 rfl (Z (D L)) 42 i _ 3 24 underlying53 hi hz0 mf lq rfl bC v (Q pre) (pre.flatMap gY) rfl KM ⟨Z (D W),0,U⟩ 1 1 (gY (y,C,z)) rfl rfl ?c1 ?c2 ?c3 ?c4 ?c5 ?_)
  case c1 => intro j u V;have h:=cD.cell j;rw[show (dZ (y,C,z))[j]?=(gY (y,C,z))[j]? by simp,V]at h;rw[show (⟨Z (D W),0,U⟩:Addr).add j=⟨Z (D W),j,U⟩ by cases j <;> simp[Addr.add]];exact h
  case c2=>intro u V;simp at V;rcases V with rfl|rfl|rfl <;> rfl
  case c3=>unfold maxLen;omega
  case c4=>omega
  case c5=>simp;omega
  intro v' w' hown' hgrow _;obtain⟨g',cap',R⟩:∃g cap,v'=F (I ⟨g,0,U⟩) (Q pre+1) cap:=ajq;rw[R]at hown'⊢;clear R;obtain⟨v',R⟩:∃v',v'=F (I ⟨g',0,U⟩) (Q pre+1) cap':=⟨_,rfl⟩;rw[<- R]at hown';have hne:I B0≠aW v:=λe=>by have:=(hrow.lt B0 e.symm).1;have:=fG.lt;omega
  have zG:=(hv.alloc _).kept hgrow hne;have q1:=zG.cell;have z1:=zG.frozen;have Ox:aW v'≠I B0:=λe=>by have:=(hown'.lt B0 e).1;have:=fG.lt;omega
  have u :=
   ((bf.bS ((K.rf W).al (aq (dZ (y,C,z)) 42)) _).tr (bf.gy hgrow λg hg=>aJ (KM.lt g hg).1)).tr (bf.dc (X:=λk=>k=B0∨Z (D L)<=k) (aI rfl) 0 v')
  have UH:KeepsOthers W (aV w' ⟨B0,0,U⟩ v'):=by refine ((KeepsOthers.alloc W (aq (dZ (y,C,z)) 42)).trans (KeepsOthers.of_grownBy hgrow λj o ej hj=>?_)).trans (KeepsOthers.setCell _ _ _);exact ajr
  have hI:Boxed (aV w' ⟨B0,0,U⟩ v') B0 53 v'/\(aV w' ⟨B0,0,U⟩ v').ownsRow (Z (D L)) 42 3 v' (Q (pre++[(y,C,z)])) ((pre++[(y,C,z)]).flatMap gY)/\aN (Z (D w)) w (aV w' ⟨B0,0,U⟩ v')/\Z (D L)<=Z (D (aV w' ⟨B0,0,U⟩ v')):=by
   refine⟨zG.set v',?_,⟨u.os.trans hB.os,u.tape.trans hB.tape,u.output.trans hB.output,cI hB.size u.size,λk hk=>(u.block k (cQ hk hB.size) λh=>?_).trans (hB.block k hk)⟩,cI Pk u.size⟩
   ·exact ajs
   ·have:=k2.size;have:=HG.aX;omega
  subst R;gi_wp2;exact⟨UH.from _,UH.walks,_,hI.1,hI.2.1,hI.2.2.1,hI.2.2.2⟩
 case done =>
  rintro aT M W hD hp⟨v,hv,hrow,hB,Pk⟩ hK;have q:=hv.cell;have hr:(W.putObj aT (.deferred U)).ownsRow (Z (D w)) 42 3 v (Q M) (M.flatMap gY):=Hr (oy k2.size hrow) λg _ _ h2=>World.putObj_heap_other λe=>by exact ajt
  have HV:=aY hr;have HI:=aY (belowK_b (n₀:=Z (D w)) (w:=L) k2.size W aT _ (.deferred U) hD hK rfl rfl);have HP:=aY hp;clear hp hr;gi_wp2;refine⟨bq,aI ⟨_,_,rfl,run_takeDeferred hK,?_⟩⟩;exact⟨_,results_tmp rfl _ _ _,_,M,rfl,HP.aX,ic,hB.trans HI.aX⟩
 case stop => simp
end
def Bu(s:Nat):Nat:=if s &&& 1=1 then (s/2) ^^^ 3945912366 else s/2
def Gi:Nat->Nat->Nat
 | 0,s=>s
 | k+1,s=>Bu (Gi k s)
def EU(l:List UInt8):Nat:=l.foldl (λs b=>Gi 8 (s ^^^ b.toNat)) 4294967295
def Dr(l:List UInt8):Nat:=4294967295 ^^^ EU l
theorem RK{a b}(j:a<4294967296)(hb:b<4294967296):a ^^^ b<4294967296:=Nat.xor_lt_two_pow (n:=32) j hb
theorem aju{s}(h:s<4294967296):Bu s<4294967296:=by
 grind [Bu,RK]
theorem aA8 k{s}(h:s<4294967296):Gi k s<4294967296:=by
 induction k with
 | zero=>exact h
 | succ k j=>exact aju j
theorem agt l b:EU (l++[b])=Gi 8 (EU l ^^^ b.toNat):=by simp[EU]
theorem ajv l:EU l<4294967296:=by
 rcases List.eq_nil_or_concat l with rfl|⟨l',b,rfl⟩
 ·decide
 ·rw[List.concat_eq_append,agt];have j:=ajv l';exact aA8 8 (RK j (by have:=b.toNat_lt;omega))
termination_by (Q l)
decreasing_by all_goals (subst_vars;simp)
theorem YS l:Dr l<4294967296:=RK bC (ajv l)
theorem afG l v w(h:sl l v w)(hn:Q l<=1000000000) :
 aK prog 130 #[v] w λe w'=>e=ak (G .u32 (Dr l:Int))/\K w w':=by
 obtain⟨A,c,rfl,L⟩:=h
 have O:=K.rf w
 have S:Hid (Dr l=4294967295 ^^^ EU l):=aY rfl
 generalize Dr l=R at *
 go_in
 go_wp2_with fail
 go_loop [3,5,6,9] (fun s _ _ i=>∃j:Nat,j<=Q l/\i=G J j/\∃n:Nat,s=G .u32 n/\n<4294967296/\Hid (n=EU (l.take j))) (fun _ _ _ i=>Q l-(aO i).toNat)
 case atStart=>exact⟨0,aZ,rfl,4294967295,rfl,aZ,aY cY⟩
 case round =>
  obtain⟨j,W,rfl,n,rfl,hn,B⟩:=hrel;by_cases y:j<Q l
  ·have C:(j:Int)<Q l:=aZ;obtain⟨b,X,rfl,-,t⟩:=L.at_ aZ;have:=t j y;have:l[j].toNat<256:=l[j].toNat_lt;have V:Hid (EU (l.take (j+1))=Gi 8 (n ^^^ l[j].toNat)):=aY (by rw[ix y,agt,B.aX]);generalize l[j]=x at *;have HX:=aY (u32_xor_nat n x.toNat hn aZ);have M:=RK hn (show x.toNat<4294967296 by omega);clear t;go_wp2_with fail
   rw[HX.aX];generalize n ^^^ x.toNat=s0 at *;go_loop [3,6,17] (fun s _ k=>∃k':Nat,k'<=8/\k=G J k'/\∃m:Nat,s=G .u32 m/\m<4294967296/\Hid (m=Gi k' s0)) (fun _ _ k=>8-(aO k).toNat)
   case atStart=>exact⟨0,aZ,rfl,s0,rfl,M,aY rfl⟩
   case round =>
    obtain⟨k',hk,rfl,m,rfl,hm,HM⟩:=hrel;by_cases hk8:k'<8
    ·have H:(k':Int)<8:=aZ;have hl:=aju hm;have ha:=u32_and_nat m 1 hm bC;by_cases h1:m &&& 1=1
     ·have hb:(bits BinOp.and IntKind.u32 (m:Int) 1==1)=true:=bG;have hB:Bu m=(m/2) ^^^ 3945912366:=by rw[Bu,bT h1]
      have HX:=aY (show bits BinOp.xor IntKind.u32 ((m:Int)/2) 3945912366=((Bu m:Nat):Int) by rw[hB];exact u32_xor_nat (m/2) 3945912366 aZ bC);exact ajw
     ·have hb:(bits BinOp.and IntKind.u32 (m:Int) 1==1)=false:=by
       grind
      have hB:Bu m=m/2:=by rw[Bu,bO h1]
      have HX:=aY (show (m:Int)/2=((Bu m:Nat):Int) by omega);exact ajw
    ·have H:¬(k':Int)<8:=aZ;obtain rfl:k'=8:=aZ;have N:Hid (m=EU (l.take (j+1))):=aY (by rw[V.aX,HM.aX]);go_wp2;go_round
     case rel=>exact⟨j+1,aZ,cU,m,rfl,hm,N⟩
     case measure=>simp[aO];omega
  ·have C:¬(j:Int)<Q l:=aZ;obtain rfl:j=Q l:=aZ;have T:Hid (R=4294967295 ^^^ n):=aY (by rw[S.aX,B.aX,nN]);have HX:=aY (u32_xor_nat 4294967295 n bC hn);go_wp2;go_ret;refine⟨?_,O⟩;rw[T.aX];exact congrArg (λz=>ak (G IntKind.u32 z)) HX.aX
theorem aeM(g lo base k n:Nat) v l w(hb:bn w g 118 #[v])(y:Own w base 5 v l)(H:lo<=g/\lo<=base/\lo<=Z (D w))(hbase:base<=Z (D w))(hk:k<=4)(hn:n<4294967296)(hl:Q l<=1000000000) :
 aK prog 333 #[G .u32 n,G J k,aj (I ⟨g,0,U⟩)] w λe w'=>∃v',e=ak (au #[])/\bn w' g 118 #[v']/\Own w' base 5 v' (l++be k n)/\aN lo w w':=by
 have kk:=ed lo w
 go_in
 go_wp2_with fail
 go_loopw [5] (fun i W=>∃(j:Nat) (v':aQ) (pre:List UInt8),j<=k/\(∃z:Int,i=G J z/\z+1=(j:Int))/\bn W g 118 #[v']/\Own W base 5 v' (l++pre)/\Hid (pre++be j n=be k n)/\aN lo w W) (fun i _=>(aO i+1).toNat)
 case atStart=>exact⟨k,v,[],aZ,⟨_,rfl,aZ⟩,hb,by simpa using y,aY bq,kk⟩
 case round =>
  obtain⟨j,v',pre,hj,⟨z,rfl,hz⟩,hb,y,B,kr⟩:=hrel;by_cases h0:0<j
  ·obtain⟨j,rfl⟩:∃j',j=j'+1:=⟨j-1,aZ⟩;obtain rfl:z=(j:Int):=aZ;have cd:(0:Int)<=(j:Int):=aZ;have hj8:(8:Int)*(j:Int)<=24:=aZ;have hwr:J.wrap (8*(j:Int))=8*(j:Int):=IntWalk.i64_in _ aZ;have Dx:¬(8*(j:Int)<0):=aZ;have q:=hb.cells;have z:=hb.frozen;go_upto_region 3 with fail;have qs:=aB q (aB hwr Dx);refine QW 7 [([],[]),([],[]),([],[]),([2],[(14,2)]),([1,3],[(13,1),(15,3)]),([4],[(16,4)]),([5],[(17,5)]),([0,6],[(12,0),(18,6)]),([0,1,2,3,4,5,6,7],[(19,7)])] 20 ?_;iterate 6 refine bA.i ?_
   refine bA.row (N:=λ_=>True) (S:=OY) 118 _ 1 1 TB rfl bC (.tmp 17) (UInt8.ofNat (n/256^j)) rfl rfl (λV W kW hp=>?_) ?_
   ·simp only[dE,bU,bZ,dA,dB,bM]at hp;simp only[bP,aC,beq_self_eq_true,hp];refine⟨rfl,λW' _=>?_⟩;show [G .u8 _]=_;rw[show (8*(j:Int)).toNat=8*j by omega,show IntKind.u8.wrap ((n:Int)/2^(8*j))=(n:Int)/2^(8*j)%256 from by rw[IntKind.wrap_u8],aga]
   intro V W kW hA;simp only[bU,bZ,dx,bM,Nat.reduceAdd]at hA;obtain⟨e0,-,-,-,-,-,e6,-⟩:=hA;have L:=Xh (bL _) y kW;have M:=hb.bF kW;have R:aW v'≠I g:=λe=>by obtain⟨cur,h1⟩:=nK L e;exact absurd (h1.js M) bC
   have hpl:Q pre<=4:=by have:=congrArg Q B.aX;simp[xJ]at this;omega
   have hbz:base<=Z (D W):=by have:=kW.size;have:=kr.size;omega
   refine bJ.push (.tmp 12) (.tmp 18) 118 _ 1 1 TB rfl rfl rfl v' (l++pre) (UInt8.ofNat (n/256^j)) ?_ (Own.tR (Y:=λ_=>True) L) ?_ ?_ hbz ?_
   ·simp[bP,aC,e0]
   ·simp only[bP,aC,beq_self_eq_true];exact e6.less λ_ _=>trivial
   ·simp;omega
   intro v2 A eE gg _ hb2;have hx2:=M.grown gg (λe=>R e.symm);have C:=eE.bytes;have Gj:aW v2≠I g:=λe=>by obtain⟨cur,h1⟩:=nK C e;exact Sv
   obtain⟨t,c2,rfl,-⟩:=C.slice;refine bJ.skip (aV A ⟨g,0,U⟩ (F t (Q (l++pre++[UInt8.ofNat (n/256^j)])) c2)) rfl ?_ ?_
   ·have O:=hx2.cell;have z2:=hx2.frozen;simp[bP,aC,cK,aL,bR,O,z2,go_sem]
   refine bJ.nil ?_;simp only[iu,Act.put,ue,tC,tB,cK,Nat.reduceAdd,Nat.reduceEqDiff,if_false,if_true];have cN:=hx2.cz 0 (F t (Q (l++pre++[UInt8.ofNat (n/256^j)])) c2);have oP:Own (aV A ⟨g,0,U⟩ (F t (Q (l++pre++[UInt8.ofNat (n/256^j)])) c2)) base 5 (F t (Q (l++pre++[UInt8.ofNat (n/256^j)])) c2) (l++(pre++[UInt8.ofNat (n/256^j)])):=by rw[<- fN];exact ke C (bf.dc (X:=λk=>k=g) rfl 0 _) λb hb e=>Gj (by rw[hb,e])
   have k9:aN lo w (aV A ⟨g,0,U⟩ (F t (Q (l++pre++[UInt8.ofNat (n/256^j)])) c2)) :=
    ((kr.trans (kW.mono (by have:=kr.size;omega))).trans (hb2.mono H.2.1)).setCell (p:=⟨g,0,U⟩) H.1 _
   have T:Hid (pre++[UInt8.ofNat (n/256^j)]++be j n=be k n):=aY (by have:=B.aX;rw[be]at this;simpa using this);generalize A.setCell _ _=w9 at *;go_wp2;go_roundw
   case rel=>exact⟨j,_,_,aZ,⟨_,rfl,aZ⟩,cN,oP,T,k9⟩
   case measure=>simp[aO]
  ·obtain rfl:j=0:=aZ;have HE:=aY (by have:=B.aX;simpa [be]using this);go_wp2;go_end0;exact⟨_,rfl,hb,by rw[<- HE.aX];exact y,kr⟩
def jw(b:List UInt8):Bool:=decide (1<=Q b)&&decide (Q b<=4000)
def frame(b:List UInt8):List UInt8:=be 2 (Q b)++be 4 (Dr b)++b
def Db(b:List UInt8):List UInt8:=if jw b then frame b else []
def Ir(b:List UInt8):Int:=if jw b then 0 else 30
theorem Ek b:Q (frame b)=zI b:=by grind [frame,xJ,zI]
theorem aui b v w(h:sl b v w)(hn:Q b<=1000000000) :
 aK prog 301 #[v] w λe w'=>∃v',e=ak (au #[v',G J (Ir b)])/\Own w' (Z (D w)) 5 v' (Db b)/\K w w':=by
 have N:=aY λW (k:K w W)=>afG b v W (pQ _ _ _ _ h k) hn
 have hcs:=YS b
 obtain⟨A,c,rfl,hR⟩:=h
 have kk:=K.rf w
 have HF:Hid (Db b=if jw b then be 2 (Q b)++be 4 (Dr b)++b else []):=aY rfl
 have HC:Hid (Ir b=if jw b then 0 else 30):=aY rfl
 have z:Hid (jw b=(decide (1<=Q b)&&decide (Q b<=4000))):=aY rfl
 generalize Ir b=R at *
 generalize Db b=ag at *
 generalize jw b=ok at *
 generalize Dr b=s at *
 go_in
 by_cases h0:0<Q b
 rotate_left
 ·have h0':((Q b:Int)==0)=true:=by rw[beq_iff_eq];omega
  obtain rfl:ok=false:=by rw[z.aX,decide_eq_false (show ¬1<=Q b by omega)];rfl
  exact ajx
 have h0':((Q b:Int)==0)=false:=bG
 by_cases h1:4000<Q b
 ·have h1':4000<(Q b:Int):=aZ;obtain rfl:ok=false:=by rw[z.aX,decide_eq_false (show ¬Q b<=4000 by omega),Bool.and_false]
  exact ajx
 have h1':(Q b:Int)<=4000:=aZ
 obtain rfl:ok=true:=by rw[z.aX,decide_eq_true (show 1<=Q b by omega),decide_eq_true (show Q b<=4000 by omega)];rfl
 have HR:Hid (R=0/\ag=be 2 (Q b)++be 4 s++b):=aY ⟨HC.aX,HF.aX⟩
 obtain⟨i,hi,H,X,hz2⟩:=info_parts aas
 have:∀W:aP,(Instr.makeSlice 118 (G J 0) (G J (6+(Q b:Int)))).run prog W=.ok (F (I ⟨Z (D W),0,U⟩) 0 (6+Q b)) (aU W (aq (madeCells #[G .u8 0] (6+Q b)) 5)):=by intro W;have h:=run_make (P:=prog) W 118 5 i (G .u8 0) underlying118 hi H J J 0 (6+(Q b:Int)) aZ aZ XY aZ;rw[X]at h;simpa [Value.cells,show ((6:Int)+(Q b:Int)).toNat=6+Q b from by omega]using h
 have hB:=bn.new w 5 (madeCells #[G .u8 0] (6+Q b))
 have y:=bn.new (aU w (aq (madeCells #[G .u8 0] (6+Q b)) 5)) 118 #[F (I ⟨Z (D w),0,U⟩) 0 (6+Q b)]
 have Jb:=hB.alloc (aq #[F (I ⟨Z (D w),0,U⟩) 0 (6+Q b)] 118)
 have j:=K.lK w (aq (madeCells #[G .u8 0] (6+Q b)) 5) (aq #[F (I ⟨Z (D w),0,U⟩) 0 (6+Q b)] 118)
 simp only[World.size_alloc]at y
 go_wp2_with fail
 generalize (aU w (aq (madeCells #[G .u8 0] (6+Q b)) 5)).alloc (aq #[F (I ⟨Z (D w),0,U⟩) 0 (6+Q b)] 118)=w0 at *
 have S:Own w0 (Z (D w)) 5 (F (I ⟨Z (D w),0,U⟩) 0 (6+Q b)) [] :=
  QQ (xs:=[]) (rest:=List.replicate (6+Q b) (G .u8 0)) (bL _) (by rw[bU,<- toList_madeCells_one];exact Jb) rfl bq Eo
 have H:=y.lt
 refine (aeM (Z (D w)+1) (Z (D w)) (Z (D w)) 2 (Q b) _ [] w0 y S ⟨aZ,aZ,aZ⟩ aZ aZ aZ bq).mono ?_
 rintro e w1⟨O,rfl,T,C,k1⟩
 replace j:=j.trans k1
 rw[bU]at C
 have gj:=xJ 2 (Q b)
 generalize be 2 (Q b)=B at *
 go_wp2_with fail
 refine (N.aX w1 j).mono ?_
 rintro e w2⟨rfl,t⟩
 have L:=T.bF t
 have V:=Xh (bL _) C t
 replace j:=j.tr t
 have hz2:=L.lt
 go_wp2_with fail
 refine (aeM (Z (D w)+1) (Z (D w)) (Z (D w)) 4 s O B w2 L V ⟨aZ,aZ,aZ⟩ aZ aZ hcs aZ).mono ?_
 rintro e w3⟨v3,rfl,iH,iB,k3⟩
 replace j:=j.trans k3
 have zo:=(hR.below j (bL _)).more j.size
 have:=iH.cell
 have jy:Q (B++be 4 s)=6:=by simp[xJ,gj]
 have hbz:=j.size
 generalize B++be 4 s=hd at *
 go_wp2_with (at_builtin;refine j9 rfl _ _ 118 rfl (Z (D w)) 5 _ 1 1 TB _ _ _ rfl iB _ A (Q b) c (fM b) rfl zo (xN b) ?p1 hbz ?_)
 case p1=>omega
 intro v4 M Y _ _ hb4
 have HO:Hid (Own M (Z (D w)) 5 v4 (hd++b)):=aY (by unfold Own;rw[MJ,eU,jy];exact Y)
 have k4:=j.trans hb4
 go_wp2
 go_ret2
 exact⟨_,by rw[HR.aX.1];rfl,by rw[HR.aX.2];exact HO.aX,k4⟩
theorem axs{P} w d t e a l c(h:P.underlying t=some (.slice e)):(Op.equalIn (d+1) t (F a l c) (F U 0 0)).run P w=.ok a.isNone w:=by cases a <;> simp[Op.equalIn,run_underlying h]
theorem axt{P} w t e a l c(h:P.underlying t=some (.slice e)):(Op.equal t (F a l c) (F U 0 0)).run P w=.ok a.isNone w:=axs w 9999 t e a l c h
theorem Sw{P} w t e a l c(h:P.underlying t=some (.slice e)):(binOp .eql t (F a l c) (F U 0 0)).run P w=.ok (ar a.isNone) w:=by simp[binOp,axt w t e a l c h]
theorem MD A n c xs w(hR:Reads w (Z (D w)) 1 A n xs)(h1:∀u∈xs,u.oneCell'=aA)(hn:n<=1000000000) :
 aK prog 88 #[F A n c] w λe w'=>∃v',e=ak v'/\w'.ownsRow (Z (D w)) 5 1 v' n xs/\K w w':=by
 have kk:=K.rf w
 have:=λ(W:aP) (a:Option Addr) (l c:Nat)=>Sw (P:=prog) W 118 5 a l c underlying118
 go_in
 cases A with
 | none => exact Sy
 | some ad => exact ajy
theorem asC A n c xs w(hR:Reads w (Z (D w)) 1 A n xs)(h1:∀u∈xs,u.oneCell'=aA)(hn:n<=1000000000) :
 aK prog 131 #[F A n c] w λe w'=>∃v',e=ak v'/\w'.ownsRow (Z (D w)) 5 1 v' n xs/\K w w':=by
 have kk:=K.rf w
 have:=λ(W:aP) (a:Option Addr) (l c:Nat)=>Sw (P:=prog) W 118 5 a l c underlying118
 go_in
 cases A with
 | none => exact Sy
 | some ad => exact ajy
theorem aeN A n c xs w(hR:Reads w (Z (D w)) 3 A n xs)(y:∀u∈xs,u.oneCell'=aA)(hn:n<=1000000000) :
 aK prog 87 #[F A n c] w λe w'=>∃v',e=ak v'/\w'.ownsRow (Z (D w)) 42 3 v' n xs/\K w w':=by
 have kk:=K.rf w
 have:=λ(W:aP) (a:Option Addr) (l c:Nat)=>Sw (P:=prog) W 53 42 a l c underlying53
 go_in
 cases A with
 | none => exact Sy
 | some t =>
  have hb:=bn.new w 42 #[];have k1:=hb.cC;have z:(aU w (aq #[] 42)).ownsRow (Z (D w)) 42 3 (F (I ⟨Z (D w),0,U⟩) 0 0) 0 [] :=
   ⟨rfl,aJ ⟨Z (D w),0,_,rfl,bL _,hb,bL _,Eo,bq,bq⟩⟩
  have j:=(hR.below k1 (bL _)).more k1.size;go_wp2_with (at_builtin;refine j9 rfl _ _ 53 rfl (Z (D w)) 42 _ 3 24 wg _ 0 [] rfl z _ (I t) n c xs rfl j y ?p1 k1.size ?_)
  case p1=>omega
  exact YT
theorem aeO A n c xs w(hR:Reads w (Z (D w)) 5 A n xs)(y:∀u∈xs,u.oneCell'=aA)(hn:n<=1000000000) :
 aK prog 336 #[F A n c] w λe w'=>∃v',e=ak v'/\w'.ownsRow (Z (D w)) 85 5 v' n xs/\K w w':=by
 have kk:=K.rf w
 have:=λ(W:aP) (a:Option Addr) (l c:Nat)=>Sw (P:=prog) W 37 85 a l c underlying37
 go_in
 cases A with
 | none => exact Sy
 | some t =>
  have hb:=bn.new w 85 #[];have k1:=hb.cC;have z:(aU w (aq #[] 85)).ownsRow (Z (D w)) 85 5 (F (I ⟨Z (D w),0,U⟩) 0 0) 0 [] :=
   ⟨rfl,aJ ⟨Z (D w),0,_,rfl,bL _,hb,bL _,Eo,bq,bq⟩⟩
  have j:=(hR.below k1 (bL _)).more k1.size;go_wp2_with (at_builtin;refine j9 rfl _ _ 37 rfl (Z (D w)) 85 _ 5 56 TF _ 0 [] rfl z _ (I t) n c xs rfl j y ?p1 k1.size ?_)
  case p1=>omega
  exact YT
theorem avE(a b:Nat)(t:a<4294967296)(hb:b<4294967296):bits .or J (a:Int) (b:Int)=((a ||| b:Nat):Int):=by
 have:a ||| b<2^32:=Nat.or_lt_two_pow aZ aZ
 show J.wrap ((BitVec.ofInt 64 (a:Int) ||| BitVec.ofInt 64 (b:Int)).toNat:Int)=_;rw[BitVec.toNat_or,ofInt_u64 a aZ,ofInt_u64 b aZ,IntKind.wrap_i64];omega
theorem aeP g A z c t k(l:List UInt8) w(hb:bn w g 118 #[F (I ⟨A,z,U⟩) (Q l) c])(M:∀j (R:j<Q l),w.cell? ⟨A,z+j,U⟩=I (G .u8 (l[j].toNat:Int)))
 (X:t+k<=Q l) (S:Q l<=c) (T:0<k) (hk:k<=4) (hl:Q l<=1000000000) :
 aK prog 129 #[G J t,G J k,aj (I ⟨g,0,U⟩)] w λe w'=>e=ak (G J (kL ((l.drop t).take k):Int))/\K w w':=by
 have B:=K.rf w
 have q:=hb.cell
 have H:=aY M
 have Y:(t:Int)+k<=(Q l:Int):=aZ
 have V:¬c=t:=aZ
 go_in
 go_wp2_with fail
 go_loop [6,8,16] (fun n _ i=>∃j:Nat,j<=k/\i=G J j/\∃m:Nat,n=G J m/\Hid (m=kL ((l.drop t).take j))) (fun _ _ i=>k-(aO i).toNat)
 case atStart=>exact⟨0,aZ,rfl,0,rfl,aY cY⟩
 case round =>
  obtain⟨j,R,rfl,m,rfl,y⟩:=hrel;by_cases hlt:j<k
  ·have O:(j:Int)<k:=aZ;have cj:w.cell? ⟨A,z+t+j,U⟩=I (G .u8 ((l[t+j]'aZ).toNat:Int)):=by have:=H.aX (t+j) aZ;rwa [Nat.add_assoc]
   have hx:=(l[t+j]'aZ).toNat_lt;have C:Hid (kL ((l.drop t).take (j+1))=m*256+(l[t+j]'aZ).toNat):=aY (by rw[ix (by simp;omega),Xj,y.aX];simp);have hm:m<16777216:=by have:=Nk ((l.drop t).take j);rw[<- y.aX]at this;have L:Q ((l.drop t).take j)<=3:=cG;have W:256^Q ((l.drop t).take j)<=256^3:=Nat.pow_le_pow_right bC L;omega
   generalize (l[t+j]'aZ).toNat=x at *;have N:=aY (show bits BinOp.or J ((m:Int)*256) (x:Int)=((m*256+x:Nat):Int) by
    rw[show (m:Int)*256=((m*256:Nat):Int) by simp,avE _ _ aZ aZ,nat_join 8 _ _ aZ aZ])
   go_wp2;go_round
   case rel=>exact⟨j+1,aZ,cU,m*256+x,by rw[N.aX],aY C.aX.symm⟩
   case measure=>simp[aO];omega
  ·have O:¬(j:Int)<k:=aZ;obtain rfl:j=k:=aZ;go_wp2;go_ret;exact⟨by rw[<- y.aX];rfl,B⟩
def frames(j:List (List UInt8)):List UInt8:=j.flatMap frame
theorem axu(t:List (List UInt8))(j:Nat)(h:j<Q t)(y:jw t[j]=aA) :
 ∃rest,frames t=frames (t.take j)++(frame t[j]++rest)/\kL (((frames t).drop (Q (frames (t.take j)))).take 2)=Q t[j]/\kL (((frames t).drop (Q (frames (t.take j))+2)).take 4)=Dr t[j] /\
  ((frames t).take (Q (frames (t.take j))+6+Q t[j])).drop (Q (frames (t.take j))+6)=t[j]/\Q (frames t)=Q (frames (t.take j))+6+Q t[j]+Q rest/\Q (frames (t.take (j+1)))=Q (frames (t.take j))+6+Q t[j]:=by
 have e:frames t=frames (t.take j)++(frame t[j]++frames (t.drop (j+1))):=by unfold frames;conv=>lhs;rw[<- List.take_append_drop j t,List.flatMap_append,<- List.getElem_cons_drop h,xV]
 have:Q t[j]<=4000:=by simp only[jw,fB,decide_eq_true_eq]at y;exact y.2
 have:=YS t[j]
 refine⟨_,e,?_,?_,?_,?_,?_⟩
 ·rw[e,List.drop_left,frame,fN,fN,List.take_left' (xJ 2 _),Yc];exact Nat.mod_eq_of_lt aZ
 ·rw[e,List.drop_append,List.drop_of_length_le aZ,bU,Nat.add_sub_cancel_left,frame,fN,fN,List.drop_left' (xJ 2 _),List.take_left' (xJ 4 _),Yc];exact Nat.mod_eq_of_lt aZ
 ·rw[e,Nat.add_assoc,List.take_append,iw (show Q (frames (t.take j))<=_ by omega),Nat.add_sub_cancel_left,List.drop_append,List.drop_of_length_le aZ,bU,Nat.add_sub_cancel_left,
   List.take_left' (by rw[Ek];rfl),frame,List.drop_left' (by simp[xJ])]
 ·rw[e];simp only[eU,Ek,zI];omega
 ·rw[ix h];simp only[frames,List.flatMap_append,xV,List.flatMap_nil,List.append_nil,eU,Ek,zI];omega
theorem auj t v w A c(hv:v=F A (Q (frames t)) c)(T:Reads w (Z (D w)) 1 A (Q (frames t)) (fM (frames t)))(B:Q (frames t)<=c)(hn:Q (frames t)<=1000000000)(Y:∀b∈t,jw b=aA) :
 aK prog 89 #[v] w λe w'=>∃v',e=ak (au #[v',G J (Q (frames t):Int)])/\bK (λk=>k<Z (D w)) (Z (D w)) 118 mJ t v' w'/\K w w':=by
 subst hv
 have j8:=aY Y
 have s7:=aY λj h=>axu t j h (Y _ (dG h))
 have hrl:Q t<=Q (frames t):=by
  clear T B hn j8 s7
  induction t with
  | nil=>simp
  | cons b t ih => have:=ih (λb hb=>Y b (by simp[hb]));simp only[frames,xV,eU,fY,Ek,zI]at this⊢;omega
 have HE:Hid (Q (frames (t.take (Q t)))=Q (frames t)):=aY (by rw[nN])
 obtain⟨L,hL⟩:∃L,L=frames t:=⟨_,rfl⟩
 rw[<- hL]at T B hn hrl HE s7⊢
 clear hL Y
 have hb0:=bn.new w 118 #[F A (Q L) c]
 have R:=hb0.cC
 go_in
 go_wp2
 go_step3
 go_wp2_with fail
 generalize w.alloc _=w0 at *
 have DI:=(T.below R (bL _)).more R.size
 have jK:=bK.nil (λk=>k<Z (D w)) (Z (D w0)) 118 mJ w0
 clear T
 go_step3
 go_wp2_with fail
 go_loopw [4,5,7,8,9] (fun o at_ _ _ _ W=>∃j:Nat,j<=Q t/\at_=G J (Q (frames (t.take j)):Int)/\bK (fun k=>k<Z (D w)) (Z (D w0)) 118 mJ (t.take j) o W/\K w0 W) (fun _ at_ _ _ _ _=>Q L+1-(aO at_).toNat)
 case atStart=>exact⟨0,aZ,rfl,by simpa using jK,K.rf w0⟩
 case round =>
  clear jK;obtain⟨j,hj,rfl,N,kr⟩:=hrel;have M:=hb0.bF kr;have q:=M.cell;have hgr:=M.lt;have krw:=R.tr kr;by_cases hlt:j<Q t
  ·obtain⟨rest,h1,h2,h3,h4,h5,h6⟩:=s7.aX j hlt;have hx:=j8.aX _ (dG hlt);have HT:=aY (ix hlt);simp only[jw,fB,decide_eq_true_eq]at hx;obtain⟨hx1,hx2⟩:=hx;have H6:=aY h6;generalize Q (frames (t.take j))=y at *;generalize t[j]=x at *;have X:(Q L:Int)=y+6+(Q x:Int)+Q rest:=aZ;have Lw:6<(Q L:Int)-(y:Int):=aZ;have cD:((Q x:Int)==0)=false:=YU;have hb2:¬4000<(Q x:Int):=aZ;have dy:¬((Q L:Int)-((y:Int)+6)<(Q x:Int)):=aZ;have hb4:(y:Int)+6+(Q x:Int)<=c:=aZ;clear X;have h0L:0<Q L:=aZ;have hRr:=(DI.below kr (bL _)).more kr.size;obtain⟨H,C,rfl,hbk,hcell⟩:=hRr.at_ h0L;have C1:=aY (aeP (Z (D w)) H C c y 2 L wr M hcell aZ B aZ aZ hn);rw[h2]at C1;have C2:Hid (∀W,K wr W->aK prog 129 #[G J ((y:Int)+2),G J 4,aj (I ⟨Z (D w),0,U⟩)] W λe w'=>e=ak (G J (Dr x:Int))/\K W w'):=aY λW k=>by have h:=aeP (Z (D w)) H C c (y+2) 4 L W (M.below k hgr) (λi hi=>(k.cell (p:=⟨H,C+i,U⟩) hbk).trans (hcell i hi)) aZ B aZ aZ hn;rw[h3]at h;exact h
   have hcut:=hRr.cut (y+6) (y+6+Q x) c aZ aZ B;rw[show ((fM L).take (y+6+Q x)).drop (y+6)=fM x from by unfold fM;rw[<- List.map_take,<- List.map_drop,h4],show y+6+Q x-(y+6)=Q x by omega,bO (show ¬c=y+6 by omega)]at hcut;have CS:=aY λW (k:K wr W)=>afG x (F (I ⟨H,C+(y+6),U⟩) (Q x) (c-(y+6))) W ⟨_,_,rfl,(hcut.below k (bL _)).more k.size⟩ aZ
   have CB:=aY λW (k:K wr W)=>asC (I ⟨H,C+(y+6),U⟩) (Q x) (c-(y+6)) (fM x) W ((hcut.below k (bL _)).more k.size) (xN x) aZ
   have hcs:=YS x;clear h1 h2 h3 h4 h5 h6 hcut hcell hRr;go_wp2_with fail
   apply bN C1.aX;intro w1 k1;have q1:=(M.below k1 hgr).cell;clear q;go_wp2_with fail
   rw[show y+6+Q x-(y+6)=Q x from by omega];apply dP (C2.aX w1 k1) k1;intro w2 k2 mY;go_wp2_with fail
   apply dP (CS.aX w2 mY) mY;intro w3 k3 sy;clear q1 k1 k2 mY k3;generalize Dr x=sx at *;go_wp2_with fail
   apply dD (CB.aX w3 sy);rintro V O⟨z,k4⟩;replace z:Own O (Z (D w3)) 5 V x:=by unfold Own;exact z
   have uK:=sy.tr k4;have dt:=N.blk;have fq:=(N.st uK).st ((K.rf O).al (aq #[V] 118));have hz:=sy.size;have hF:Fx (λk=>k<Z (D w3)) (λW=>mJ.rel x [V] W) O:=λW u=>⟨V,rfl,gD (ke z u λb hb h=>by have:=(z.lt b hb).1;omega)⟩
   obtain⟨A4,c4,rfl,-⟩:=z.slice;have hr:=fL.new (S:=mJ) (e:=118) (v:=F A4 (Q x) c4) hF 0 (eO _);have Pm:=(kr.tr uK).tr ((K.rf O).al (aq #[F A4 (Q x) c4] 118));clear N hF z C1 C2 CS CB;go_wp2_with (at_builtin;refine kI rfl _ _ 125 rfl _ 1 24 UG rfl rfl fq _ rfl x ?p1 ?p2 ?p3 ?_)
   case p1=>exact hr.less λk hk=>ajz
   case p2=>simp;omega
   case p3=>exact Pm.size
   intro v9 w9 cR dF _ cN;rw[<- HT.aX]at cR;have k9:K w0 w9:=by exact Pm.trans cN
   clear hr fq;go_wp2;go_roundw
   case rel=>exact⟨j+1,aZ,by rw[H6.aX];go_num,cR,k9⟩
   case measure=>simp[aO];omega
  ·obtain rfl:j=Q t:=aZ;rw[nN]at N;have X:(Q (frames (t.take (Q t))):Int)=(Q L:Int):=Nu;rw[X];have Lw:¬6<(Q L:Int)-(Q L:Int):=aZ;clear X;go_wp2;try rw[jt]
   go_ret2;exact⟨_,rfl,N.low R.size,krw⟩
structure jl(d:rC)(s:fe):Prop where
 gQ:∀r∈d.gQ,fK r=aA/\lH r/\Q (dw r)<=4000
 run:lf eP d.gQ=I s
 fit:jQ d.gQ<=d.room
 room:d.room<=1048576
theorem axv n:1<=Q (bI n):=by grind [bI]
theorem afH r:1<=Q (dw r):=by
 grind [axv,cL,dw,eU]
theorem XM{r}(h:Q (dw r)<=4000):jw (dw r)=true:=by
 grind [afH,jw]
theorem Q5 l:Q (frames (l.map dw))=jQ l:=by
 induction l with
 | nil=>rfl
 | cons r l j =>
  grind [frames,eU,Ek,jQ]
theorem axw l:7*Q l<=jQ l:=by
 induction l with
 | nil=>simp[jQ]
 | cons r l j =>
  grind [afH,jQ,fY,zI]
theorem aA9 l(h:∀r∈l,fK r=aA/\lH r):∀s t,tN s->lf s l=I t->tN t:=by
 induction l with
 | nil=>intro s t i e;injection e with e;exact e▸i
 | cons r l j =>
  intro s t i e
  simp only[lf]at e
  cases h1:fR s r with
  | none=>rw[h1]at e;cases e
  | some u => rw[h1]at e;obtain⟨a,b⟩:=h r bq;exact j (λq y=>h q bG) u t (i.on a b h1) e
theorem aBa l:∀s t,lf s l=I t->Q t.list<=Q s.list+Q l/\Q t.prom<=Q s.prom+Q l/\Q t.ab<=Q s.ab+Q l:=by
 induction l with
 | nil=>intro s t e;injection e with e;subst e;simp
 | cons r l j =>
  intro s t e
  simp only[lf]at e
  cases h1:fR s r with
  | none=>rw[h1]at e;cases e
  | some u =>
   rw[h1]at e
   have a:=am8 s u r h1
   grind
theorem azG l a:Q (kK l a)<=Q l:=ni _ _
theorem aCB{s t r}(e:fR s r=I t):Q t.list+Q t.prom+Q t.ab<=Q s.list+Q s.prom+Q s.ab+1:=by
 unfold fR BV zB zC zD BW at e
 grind [eU,fY,List.length_nil,azG,bB,jW]
theorem aBb l:∀s t,lf s l=I t->Q t.list+Q t.prom+Q t.ab<=Q s.list+Q s.prom+Q s.ab+Q l:=by
 induction l with
 | nil=>intro s t e;injection e with e;subst e;simp
 | cons r l j =>
  intro s t e
  simp only[lf]at e
  cases h1:fR s r with
  | none=>rw[h1]at e;cases e
  | some u =>
   rw[h1]at e
   have a:=aCB h1
   grind
theorem azH{s t r}(y:fK r=aA)(e:fR s r=I t):∀q∈eY t,q∈eY s∨q=r∨q.kind=1:=by
 have A:∀(p:List bW) a q,q∈mS (kK p a)->q∈mS p:=λp a q j=>by
  grind [mS,List.mem_map_of_mem,Rt]
 have z:∀n,∀q∈ye n,q.kind=1:=λn q j=>by
  grind [fK,fR,eY,ye]
 intro q j
 obtain⟨k,n,x,b,l,c⟩:=r
 have hk:=Eh y
 simp only at hk
 unfold eY at j⊢
 simp only[De]at j⊢
 unfold fR BV zB zC zD BW at e
 simp only at e
 repeat' split at e
 all_goals first|(cases e;done)|(injection e with e;subst e)
 all_goals try simp only at j⊢
 all_goals rcases j with ((j|j)|j)|j
 all_goals first
  | exact aJ (aJ (z _ _ j))
  | exact aI (aI (aI (aJ j)))
  | exact aI (aI (aJ j))
  | exact aI (aI (aJ (A _ _ _ j)))
  | exact aI (aJ j)
  | skip
 ·grind [fK,fR,eY,nT]
 ·grind [fK,fR,eY,mS]
 ·unfold rW at j;rename_i H L B C h6;rw[List.map_append,De]at j;rcases j with j|j
  ·exact aI (aJ j)
  ·simp at j;rcases hk with ⟨g,_⟩|⟨g,_⟩|⟨_,_,rfl,rfl⟩
   ·omega
   ·omega
   ·subst B;exact aJ (aI j)
theorem axx l(h:∀r∈l,fK r=aA):∀s t,lf s l=I t->∀q∈eY t,q∈eY s∨q∈l∨q.kind=1:=by
 induction l with
 | nil=>intro s t e q j;injection e with e;subst e;exact aI j
 | cons r l y =>
  intro s t e q j
  simp only[lf]at e
  cases h1:fR s r with
  | none=>rw[h1]at e;cases e
  | some u =>
   rw[h1]at e;rcases y (λq j=>h q bG) u t e q j with a|a|a
   ·rcases azH (h r bq) h1 q a with b|b|b;all_goals grind
   all_goals grind
section
variable {d:rC} {s t:fe} {r:Rec}
theorem jl.inv(h:jl d s):tN s:=aA9 _ (λr j=>⟨(h.gQ r j).1,(h.gQ r j).2.1⟩) _ _ tN.zero h.run
theorem jl.cnt(h:jl d s):Q d.gQ<=150000:=by have:=axw d.gQ;have:=h.fit;have:=h.room;omega
theorem jl.len(h:jl d s):Q s.list<=150000/\Q s.prom<=150000/\Q s.ab<=150000:=by have a:=aBa _ _ _ h.run;have b:=h.cnt;simp only[eP,List.length_nil]at a;omega
theorem jl.tot(h:jl d s):Q s.list+Q s.prom+Q s.ab<=150000:=by have a:=aBb _ _ _ h.run;have b:=h.cnt;simp only[eP,List.length_nil]at a;omega
theorem jl.next(h:jl d s)(z:fK r=aA)(A:lH r)(y:wY d r=aA)(e:fR s r=I t):jl ⟨d.gQ++[r],d.room⟩ t:=by
 simp only[wY,fB,decide_eq_true_eq]at y;refine⟨λq j=>?_,?_,?_,h.room⟩
 ·simp only[De,List.mem_singleton]at j;rcases j with j|rfl
  ·exact h.gQ q j
  ·grind
 ·show lf eP (d.gQ++[r])=_;rw[RH,h.run];simp[lf,e]
 ·grind [fK,lH,wY,fR,jQ,zI,dw]
theorem tN.eJ(h:tN s):tN (eJ s):=⟨h.nl,h.np,h.na,h.lp,h.la,h.pa,h.B6,h.B7,h.Jd,Nat.mod_lt _ bC⟩
theorem jl.small(h:jl d s):∀q∈eY (eJ s),Q (dw q)<=4000:=by
 intro q z;have t:=YJ h.inv.eJ ajA q z;have hk:q∈eY s∨q.kind=1:=by
  grind [eY,eJ,dw,ye]
 have y:q∈d.gQ∨q.kind=1:=by
  rcases hk with a|a
  ·rcases axx _ (λr j=>(h.gQ r j).1) _ _ h.run q a with b|b|b
   ·grind [eY,eP,ye,nT,mS,rW]
   ·grind
   ·omega
  ·omega
 rcases y with a|a
 ·exact (h.gQ q a).2.2
 ·have e:dw q=bI (cL q.kind)++bI q.n:=by grind [dw]
  have:=eM (cL q.kind) (jb q.kind);have:=eM q.n t.2.2.1;rw[e,eU];omega
theorem jl.life(h:jl d s)(y:jQ (eY (eJ s))<=d.room):jl ⟨eY (eJ s),d.room⟩ (eJ s):=by have t:=YJ h.inv.eJ ajA;exact⟨λq j=>⟨(t q j).1,(t q j).2,h.small q j⟩,azx h.inv.eJ,y,h.room⟩
theorem jl.new{room}(h:room<=1048576):jl ⟨[],room⟩ eP:=⟨bq,rfl,by simp[jQ],h⟩
end
structure ja(gd:Nat)(vh:aQ)(l:List UInt8)(jj room:Nat)(w:aP):Prop where
 blk:bn w gd 149 #[vh,G J (jj:Int),G J (room:Int)]
 own:Own w 0 5 vh l
 len:Q l<=room
 room:room<=1048576
def mZ(gd:Nat)(vh:aQ)(k:Nat):Prop:=k=gd∨aW vh=I k
structure mi(gd:Nat)(vh fy:aQ)(w w':aP):Prop where
 up:bf (mZ gd vh) w w'
 new:∀k,mZ gd fy k->mZ gd vh k∨Z (D w)<=k
section
variable {gd:Nat} {vh fy Oy:aQ} {l:List UInt8} {jj room:Nat} {w w' w'':aP}
theorem ja.st(h:ja gd vh l jj room w)(k:K w w'):ja gd vh l jj room w':=⟨h.blk.bF k,sG h.own k,h.len,h.room⟩
theorem ja.ne(h:ja gd vh l jj room w):aW vh≠I gd:=λe=>by obtain⟨cur,h1⟩:=nK h.own e;exact YV
theorem ja.lt(h:ja gd vh l jj room w):∀k,mZ gd vh k->k<Z (D w):=λk hk=>hk.elim (λe=>e▸h.blk.lt) λe=>(h.own.lt k e).2
theorem mi.rf(k:K w w'):mi gd vh vh w w':=⟨bf.bS k _,λ_ h=>aI h⟩
theorem mi.tr(h:mi gd vh fy w w')(k:mi gd fy Oy w' w''):mi gd vh Oy w w'' :=
 ⟨h.up.iA k.up λb hb t=>(h.new b t).resolve_right aZ,λb hb=>(k.new b hb).elim (λj=>h.new b j) λj=>aJ (cI h.up.size j)⟩
theorem mi.k(h:mi gd vh fy w w')(k:K w' w''):mi gd vh fy w w'':=h.tr (mi.rf k)
end
theorem ajB(room:Nat) w(h:room<=1048576) :
 aK prog 38 #[G J room] w λe w'=>e=ak (au #[aj (I ⟨Z (D w),0,U⟩),G J 0])/\ja (Z (D w)) (F U 0 0) [] 0 room w'/\K w w':=by
 have:¬(room:Int)<0:=aZ
 have:¬1048576<(room:Int):=aZ
 have hb:=bn.new w 149 #[F U 0 0,G J 0,G J room]
 have k1:=hb.cC
 go_in
 go_wp2
 go_ret2
 exact⟨rfl,⟨hb,mr _ _ _ _,bq,h⟩,k1⟩
def wi(l b:List UInt8)(room:Nat):List UInt8×Int:=if Q l+Q b<=room then (l++b,0)else (l,90)
theorem aex gd vh v l b y room w(h:ja gd vh l y room w)(hb:sl b v w)(hn:Q b<=1000000000) :
 aK prog 44 #[aj (I ⟨gd,0,U⟩),v] w λe w'=>∃C,e=ak (G J (wi l b room).2)/\ja gd C (wi l b room).1 y room w'/\mi gd vh C w w':=by
 have HA:Hid (wi l b room=if Q l+Q b<=room then (l++b,0)else (l,90)):=aY rfl
 generalize wi l b room=R at *
 have M:=h.ne
 obtain⟨A,c,rfl,-⟩:=h.own.slice
 obtain⟨O,cb,rfl,hRb⟩:=hb
 have:=h.len
 have hroom:=h.room
 have q:=h.blk.cells
 have H:=aY h
 go_in
 go_wp2
 refine My 0 rfl ?_
 have N:J.wrap ((room:Int)-(Q l:Int))=(room:Int)-(Q l:Int):=IntWalk.i64_in _ aZ
 go_upto_region 3 with fail
 have qs:=aB q N
 refine eQ 13 ?_
 iterate 13 refine bA.i ?_
 intro V W kW hA
 simp only[bU,bZ,dx,bM,Nat.reduceAdd]at hA
 refine bJ.h ?_
 have t:=aY (H.aX.st kW)
 have T:=(hRb.below kW (bL _)).more kW.size
 have q:=t.aX.blk.cell
 by_cases hfit:Q l+Q b<=room
 ·have Y:decide ((room:Int)-(Q l:Int)<Q b)=false:=cG;have HR:Hid (R=(l++b,0)):=aY ajC;go_wp2_with (at_builtin;refine j9 rfl _ _ 118 rfl 0 5 _ 1 1 TB _ _ _ rfl t.aX.own _ O (Q b) cb (fM b) rfl T (xN b) ?p1 (eO _) ?_)
  case p1=>omega
  intro j B gI L S hb2;have z:Own B 0 5 j (l++b):=ajD;have hx2:=t.aX.blk.grown L λe=>M e.symm
  have Gj:aW j≠I gd:=λe=>by obtain⟨cur,h1⟩:=nK z e;exact Sv
  have hV:ja gd j (l++b) y room (aV B ⟨gd,0,U⟩ j) :=
   ⟨hx2.cz 0 j,ke z (bf.dc (X:=λk=>k=gd) rfl 0 j) λk hk e=>Gj xP,cG,hroom⟩
  have hU:mi gd (F A (Q l) c) j w (aV B ⟨gd,0,U⟩ j):=by
   have:=kW.size;refine⟨((bf.bS kW _).tr (bf.gy L λk hk=>aJ hk)).tr (bf.dc (aI rfl) 0 j),λk hk=>?_⟩;rcases hk with hk|hk
   ·exact aI (aI hk)
   ·rcases S with e|e <;> rw[e]at hk
    ·exact aI (aJ hk)
    grind
  have:=hx2.cell;have:=hx2.frozen;obtain⟨A2,c2,rfl,-⟩:=z.slice;simp only[eU]at hV hU;go_wp2;simp only[Exit.jump];exact ajE
 ·have Y:decide ((room:Int)-(Q l:Int)<Q b)=true:=cG;have HR:Hid (R=(l,90)):=aY ajF;go_wp2_with fail
  go_step3;refine⟨rfl,?_⟩;go_wp2;rw[jt];go_ret;exact⟨_,ib,by rw[HR.aX];exact t.aX,mi.rf kW⟩
theorem auk gd vh l B room w(h:ja gd vh l B room w) :
 aK prog 319 #[aj (I ⟨gd,0,U⟩)] w λe w'=>e=ak (G J 0)/\ja gd vh l (Q l) room w'/\mi gd vh vh w w':=by
 have t:=h.ne
 obtain⟨A,c,rfl,-⟩:=h.own.slice
 have q:=h.blk.cell
 have z:=h.blk.frozen
 have j:ja gd (F A (Q l) c) l (Q l) room (aV w ⟨gd,1,U⟩ (G J (Q l))) :=
  ⟨h.blk.cz 1 (G J (Q l)),ke h.own (bf.dc (X:=λk=>k=gd) rfl 1 _) λk hk e=>t xP,h.len,h.room⟩
 have y:mi gd (F A (Q l) c) (F A (Q l) c) w (aV w ⟨gd,1,U⟩ (G J (Q l))):=⟨bf.dc (aI rfl) 1 _,λ_ h=>aI h⟩
 go_in
 go_wp2
 go_ret
 exact⟨rfl,j,y⟩
theorem avF gd vh l H room w(h:ja gd vh l H room w) :
 aK prog 90 #[aj (I ⟨gd,0,U⟩),G J (Q l)] w λe w'=>e=ak (G J 0)/\ja gd vh l (Q l) room w'/\mi gd vh vh w w':=by
 have j:=h.ne
 have t:=h.own
 have y:∃A c,vh=F A (Q l) c/\Q l<=c:=by
  rcases t.2 with ⟨rfl,N⟩|⟨g,cap,cur,rfl,-,-,O,-⟩
  ·grind
  ·grind
 obtain⟨A,c,rfl,M⟩:=y
 have q:=h.blk.cell
 have z:=h.blk.frozen
 have:(Q l:Int)<=c:=aZ
 have B:ja gd (F A (Q l) c) l (Q l) room ((aV w ⟨gd,0,U⟩ (F A (Q l) c)).setCell ⟨gd,1,U⟩ (G J (Q l))):=by refine⟨(h.blk.cz 0 (F A (Q l) c)).cz 1 (G J (Q l)),?_,h.len,h.room⟩;exact ke (ke h.own (bf.dc (X:=λk=>k=gd) rfl 0 _) λk hk e=>j xP) (bf.dc (X:=λk=>k=gd) rfl 1 _) λk hk e=>j xP
 have C:mi gd (F A (Q l) c) (F A (Q l) c) w ((aV w ⟨gd,0,U⟩ (F A (Q l) c)).setCell ⟨gd,1,U⟩ (G J (Q l))):=⟨(bf.dc (aI rfl) 0 _).tr (bf.dc (aI rfl) 1 _),λ_ h=>aI h⟩
 go_in
 go_wp2
 go_ret
 exact⟨rfl,B,C⟩
def zJ(l b:List UInt8)(room:Nat):List UInt8×Int:=if Q b<=room then (b,0)else (l,90)
theorem aul gd vh v l b room w(h:ja gd vh l (Q l) room w)(hb:sl b v w)(hn:Q b<=1000000000) :
 aK prog 259 #[aj (I ⟨gd,0,U⟩),v] w λe w'=>∃C,e=ak (G J (zJ l b room).2)/\ja gd C (zJ l b room).1 (Q (zJ l b room).1) room w'/\mi gd vh C w w':=by
 have HA:Hid (zJ l b room=if Q b<=room then (b,0)else (l,90)):=aY rfl
 generalize zJ l b room=R at *
 have S:=h.room
 have V:=h.blk.lt
 obtain⟨M,W,rfl,O⟩:=hb
 have N:=aY (MD M (Q b) W (fM b) w O (xN b) hn)
 have q:=h.blk.cell
 have H:=aY h
 go_in
 go_wp2
 refine My 0 rfl ?_
 by_cases hfit:Q b<=room
 ·have T:¬(room:Int)<Q b:=aZ;have HR:Hid (R=(b,0)):=aY ajC;go_wp2_with fail
  apply dD N.aX;rintro j y⟨A,B⟩;have t:Own y (Z (D w)) 5 j b:=A;have z:=H.aX.blk.below B V;have L:aW j≠I gd:=λe=>by have:=(t.lt gd e).1;omega
  have hV:ja gd j b (Q b) room ((aV y ⟨gd,0,U⟩ j).setCell ⟨gd,1,U⟩ (G J (Q b))):=by refine⟨(z.cz 0 j).cz 1 (G J (Q b)),?_,hfit,S⟩;exact ke (ke (oy (eO _) A) (bf.dc (X:=λk=>k=gd) rfl 0 j) λk hk e=>L xP) (bf.dc (X:=λk=>k=gd) rfl 1 _) λk hk e=>L xP
  have hU:mi gd vh j w ((aV y ⟨gd,0,U⟩ j).setCell ⟨gd,1,U⟩ (G J (Q b))) :=
   ⟨((bf.bS B _).tr (bf.dc (aI rfl) 0 j)).tr (bf.dc (aI rfl) 1 _),λk hk=>hk.elim (λe=>aI (aI e)) λe=>aJ (t.lt k e).1⟩
  have:=z.cell;have:=z.frozen;obtain⟨A2,c2,rfl,-⟩:=t.slice;go_wp2;try simp only[Exit.jump]
  exact ajE
 ·have T:(room:Int)<Q b:=aZ;have HR:Hid (R=(l,90)):=aY ajF;go_wp2_with fail
  go_step3;refine⟨rfl,?_⟩;go_wp2;rw[jt];go_ret;exact⟨_,ib,by rw[HR.aX];exact H.aX,mi.rf (K.rf w)⟩
theorem ae5 gd vh l z room w(h:ja gd vh l z room w) :
 aK prog 45 #[aj (I ⟨gd,0,U⟩)] w λe w'=>∃v',e=ak v'/\Own w' (Z (D w)) 5 v' l/\K w w':=by
 have:=h.len
 have:=h.room
 obtain⟨A,c,rfl,t⟩:=h.own.slice
 have q:=h.blk.cell
 have B:=aY (MD A (Q l) c (fM l) w t (xN l) aZ)
 go_in
 go_wp2_with fail
 apply dD B.aX
 rintro C H⟨y,j⟩
 have L:Hid (Own H (Z (D w)) 5 C l):=aY y
 go_wp2
 go_ret
 exact⟨_,rfl,L.aX,j⟩
theorem ati gd vh l room keep w(h:ja gd vh l (Q l) room w)(hk:cV keep) :
 aK prog 111 #[aj (I ⟨gd,0,U⟩),G J keep] w λe w'=>e=ak (au #[])/\ja gd vh l (Q l) room w'/\mi gd vh vh w w':=by
 have C:=h.ne
 have sA:=h.len
 have O:=h.room
 have hl:∃A c,vh=F A (Q l) c/\Q l<=c:=by
  rcases h.own.2 with ⟨rfl,T⟩|⟨g,cap,cur,rfl,-,-,h1,-⟩
  ·exact⟨_,_,by rw[T],aZ⟩
  ·exact⟨_,_,rfl,h1⟩
 obtain⟨A,c,rfl,hlc⟩:=hl
 have yx:(Q l:Int)<=c:=aZ
 have q:=h.blk.cells
 have Y:J.wrap ((Q l:Int)-(Q l:Int))=0:=by rw[Int.sub_self];rfl
 have H:=aY h
 go_in
 go_upto_region 1 with fail
 have qs:=aB q Y
 refine eQ 14 ?_
 iterate 14 refine bA.i ?_
 intro V W kW hA
 simp only[bU,bZ,dx,bM,Nat.reduceAdd]at hA
 refine bJ.h ?_
 first
 | rw[show min (max keep 0) (J.wrap 0)=0 from by
  rw[show J.wrap 0=0 from rfl];omega]
 | rw[show (if J.wrap 0<(if keep<0 then (0:Int)else keep)then J.wrap 0 else if keep<0 then 0 else keep)=0 from by
  rw[show J.wrap 0=0 from rfl];split <;> split <;> omega]
 have B:=H.aX.st kW
 have z:=B.blk.frozen
 have t:=B.blk.cz 1 (G J (Q l))
 have S:=ke B.own (bf.dc (X:=λk=>k=gd) rfl 1 (G J (Q l))) λk hk e=>C xP
 have N:bf (mZ gd (F A (Q l) c)) w (aV W ⟨gd,1,U⟩ (G J (Q l))):=(bf.bS kW _).tr (bf.dc (aI rfl) 1 _)
 go_upto_region 3 with fail
 generalize W.setCell _ _=y at *
 have L:=(show bn y gd 149 #[F A (Q l) c,G J (Q l),G J room]from t).cells
 have qs:=aB L yx
 refine eQ 10 ?_
 iterate 10 refine bA.i ?_
 intro V W kW hA
 simp only[bU,bZ,dx,bM,Nat.reduceAdd]at hA
 have j:=(show bn y gd 149 #[F A (Q l) c,G J (Q l),G J room]from t).below kW (show gd<Z (D y)from t.lt)
 have UI:=sG S kW
 have q3:=j.cell
 have R:=j.frozen
 iterate 2 (apply bJ.pure;rfl;(simp[bP,aC,cK,hA,aL,bR,go_sem];rfl))
 refine bJ.skip (aV W ⟨gd,0,U⟩ (F A (Q l) c)) rfl (by simp[bP,aC,cK,hA,aL,bR,q3,R,go_sem]) ?_
 refine bJ.e ?_
 have M:ja gd (F A (Q l) c) l (Q l) room (aV W ⟨gd,0,U⟩ (F A (Q l) c)) :=
  ⟨j.cz 0 (F A (Q l) c),ke UI (bf.dc (X:=λk=>k=gd) rfl 0 _) λk hk e=>C xP,sA,O⟩
 have hU:mi gd (F A (Q l) c) (F A (Q l) c) w (aV W ⟨gd,0,U⟩ (F A (Q l) c)):=⟨(N.tr (bf.bS kW _)).tr (bf.dc (aI rfl) 0 _),λ_ h=>aI h⟩
 go_wp2
 all_goals
  go_end0
  exact⟨rfl,M,hU⟩
theorem avG g base lo v u l b w(hb:bn w g 118 #[v])(t:Own w base 5 v l)(B:sl b u w)(z:lo<=g/\lo<=base/\lo<=Z (D w))(hbase:base<=Z (D w))(hn:Q b<=1000000000)(hl:Q l<=1000000000) :
 aK prog 300 #[u,aj (I ⟨g,0,U⟩)] w λe w'=>∃v',e=ak (G J (Ir b))/\bn w' g 118 #[v']/\Own w' base 5 v' (l++Db b)/\aN lo w w':=by
 have O:=aY (aui b u w B hn)
 have:Q (Db b)<=4006:=ajG
 obtain⟨A,c,rfl,hR⟩:=B
 generalize Db b=f at *
 go_in
 go_wp2_with fail
 refine O.aX.mono ?_
 rintro e w1⟨v1,rfl,S,k1⟩
 have y:=hb.bF k1
 have H:=Xh (bL _) t k1
 obtain⟨T,c1,rfl,V⟩:=S.slice
 have hz:=k1.size
 have R:aW v≠I g:=λe=>by obtain⟨cur,h1⟩:=nK H e;exact absurd (h1.js y) bC
 have q:=y.cell
 go_wp2_with (at_builtin;refine j9 rfl _ _ 118 rfl base 5 _ 1 1 TB _ _ _ rfl H _ T (Q f) c1 (fM f) rfl V (xN f) ?p1 aZ ?_)
 case p1=>omega
 intro j M gI W _ Y
 have t:Own M base 5 j (l++f):=ajD
 have hx2:=y.grown W λe=>R e.symm
 have Gj:aW j≠I g:=λe=>by obtain⟨cur,h1⟩:=nK t e;exact Sv
 have C:=hx2.cz 0 j
 have L:Own (aV M ⟨g,0,U⟩ j) base 5 j (l++f):=ke t (bf.dc (X:=λk=>k=g) rfl 0 j) λk hk e=>Gj xP
 have N:=((k1.mono z.2.2).trans (Y.mono z.2.1)).setCell (p:=⟨g,0,U⟩) z.1 j
 have:=hx2.cell
 have:=hx2.frozen
 obtain⟨A2,c2,rfl,-⟩:=t.slice
 simp only[eU]at C L N
 go_wp2
 go_ret
 exact⟨_,rfl,C,L,N⟩
def CM(j:List (List UInt8)):List UInt8×Int:=if j.all jw then (frames j,0)else ([],30)
def CQ(j:List (List UInt8)):List UInt8:=j.flatMap Db
theorem ae6 j:Q (CQ j)<=Q j*4006:=by
 induction j with
 | nil=>simp[CQ]
 | cons b j t => have:Q (Db b)<=4006:=ajG;simp only[CQ,xV,eU,fY]at t⊢;omega
theorem afI{j}(h:j.all jw=aA):CQ j=frames j:=by
 unfold CQ frames
 rw[xW]at h
 induction j with
 | nil=>rfl
 | cons b j t =>
  grind [jw,CQ,frames,Db]
theorem aey t v w(h:bw mJ t v w)(hn:Q t<=200000)(hb:∀b∈t,Q b<=1000000000) :
 aK prog 258 #[v] w λe w'=>∃v',e=ak (au #[v',G J (CM t).2])/\Own w' (Z (D w)) 5 v' (CM t).1/\K w w':=by
 have N:Hid (CM t=if t.all jw then (frames t,0)else ([],30)):=aY rfl
 generalize CM t=R at *
 obtain⟨A,c,rfl,hl,-⟩:=h
 have HB:=aY hb
 have y:=bn.new w 118 #[F U 0 0]
 have k0:=y.cC
 go_in
 go_wp2_with fail
 generalize w.alloc _=w0 at *
 have tT:Own w0 (Z (D w)) 5 (F U 0 0) []:=mr _ _ _ _
 go_loopw [7,8,12] (fun _ _ i W=>∃(j:Nat) (v':aQ),j<=Q t/\i=G J j/\bn W (Z (D w)) 118 #[v']/\Own W (Z (D w)) 5 v' (CQ (t.take j))/\Hid ((t.take j).all jw=aA)/\aN (Z (D w)) w W) (fun _ _ i _=>Q t-(aO i).toNat)
 case atStart=>exact⟨0,_,aZ,rfl,y,ic,aY bq,k0⟩
 case round =>
  obtain⟨j,v',hj,rfl,y,H,B,kr⟩:=hrel;by_cases z:j<Q t
  ·have cd:(j:Int)<Q t:=aZ;obtain⟨b1,off,cs,rfl,hcl,hrl,d0,d⟩:=eN hl j z bC;have dt:=HB.aX _ (dG z);have V:=aY (ix z);have C:Hid (jw t[j]=az->R=([],30)):=aY λh=>by rw[N.aX,bO];simp only[xW];intro h2;have:=h2 _ (dG z);rw[h]at this;cases this
   generalize t[j]=b at *;obtain⟨u,rfl,M⟩:=hrl w (K.rf w);have cj:wr.cell? ⟨b1,off+j,U⟩=I u:=by
    grind
   have hur:=pQ _ _ _ _ M kr;obtain⟨L,T,rfl⟩:∃L T,u=F L (Q b) T:=by obtain⟨A,c,e,-⟩:=M;exact⟨A,c,e⟩
   have iO:=ae6 (t.take j);have aJt:Q (t.take j)<=200000:=cG;have C1:=aY (avG (Z (D w)) (Z (D w)) (Z (D w)) v' _ (CQ (t.take j)) b wr y H hur ⟨bL _,bL _,kr.size⟩ kr.size dt aZ);have O:Hid (Ir b=if jw b then 0 else 30):=aY rfl;go_wp2_with fail
   refine C1.aX.mono ?_;rintro e w2⟨Y,rfl,hx2,gI,S⟩;cases hok:jw b
   ·have gZ:=aY (C.aX hok);rw[show Ir b=30 by rw[O.aX,hok];rfl];go_wp2;go_ret2;exact⟨_,ND,by rw[gZ.aX];exact mr _ _ _ _,kr.trans S⟩
   ·have HA:Hid ((t.take (j+1)).all jw=aA):=aY (by rw[V.aX,List.all_append,B.aX];simp[hok]);rw[show Ir b=0 by rw[O.aX,hok];rfl];have iB:Own w2 (Z (D w)) 5 Y (CQ (t.take (j+1))):=by rw[V.aX];simpa [CQ]using gI
    go_wp2;go_roundw
    case rel=>exact⟨j+1,Y,aZ,cU,hx2,iB,HA,kr.trans S⟩
    case measure=>simp[aO];omega
  ·have cd:¬(j:Int)<Q t:=aZ;obtain rfl:j=Q t:=aZ;have gZ:Hid (R=(frames t,0)):=aY (by have:=B.aX;rw[nN]at this;rw[N.aX,bT this]);have C:Hid (Own wr (Z (D w)) 5 v' (frames t)):=aY (by have X:=B.aX;rw[nN]at H X;rw[<- afI X];exact H);have q:=y.cell;go_wp2;go_ret2;exact⟨_,ND,by rw[gZ.aX];exact C.aX,kr⟩
theorem Wx t v w(h:bw mJ t v w)(hn:Q t<=200000)(hb:∀b∈t,Q b<=1000000000) :
 aK prog 93 #[v] w λe w'=>∃v',e=ak v'/\bK (λk=>k<Z (D w)) (Z (D w)) 118 mJ t v' w'/\K w w':=by
 obtain⟨A,c,rfl,hl,-⟩:=h
 have HB:=aY hb
 obtain⟨i,hi,hz0,X,hz2⟩:=info_parts am9
 have:∀W:aP,(Instr.makeSlice 125 (G J 0) (G J (Q t))).run prog W=.ok (F (I ⟨Z (D W),0,U⟩) 0 (Q t)) (aU W (aq (madeCells #[F U 0 0] (Q t)) 118)):=by intro W;have h:=run_make (P:=prog) W 125 118 i (F U 0 0) underlying125 hi hz0 J J 0 (Q t:Int) aZ aZ XY aZ;rw[X]at h;simpa [Value.cells]using h
 have N:=bn.new w 118 (madeCells #[F U 0 0] (Q t))
 have V:=N.cC
 go_in
 go_wp2_with fail
 generalize w.alloc _=w0 at *
 have:bK (λk=>k<Z (D w)) (Z (D w)) 118 mJ [] (F (I ⟨Z (D w),0,U⟩) 0 (Q t)) w0 :=
  ⟨[],QQ (xs:=[]) (rest:=List.replicate (Q t) (F U 0 0)) (bL _) (by rw[bU,<- toList_madeCells_one];exact N) rfl bq Eo,rfl,λ_ _=>Each.nil _ _⟩
 go_loopw [3,5,11] (fun o _ i W=>∃j:Nat,j<=Q t/\i=G J j/\bK (fun k=>k<Z (D w)) (Z (D w)) 118 mJ (t.take j) o W/\K w W) (fun _ _ i _=>Q t-(aO i).toNat)
 case atStart=>exact⟨0,aZ,rfl,ic,V⟩
 case round =>
  obtain⟨j,hj,rfl,hO,kr⟩:=hrel;by_cases C:j<Q t
  ·have cd:(j:Int)<Q t:=aZ;obtain⟨b1,Y,cs,rfl,hcl,hrl,d0,d⟩:=eN hl j C bC;have dt:=HB.aX _ (dG C);have HT:=aY (ix C);generalize t[j]=b at *;obtain⟨u,rfl,T⟩:=hrl w (K.rf w);have:wr.cell? ⟨b1,Y+j,U⟩=I u:=by
    grind
   obtain⟨R,cu,rfl,hRu⟩:=pQ _ _ _ _ T kr;have O:=aY (MD R (Q b) cu (fM b) wr hRu (xN b) dt);have hbv:=hO.blk;go_wp2_with fail
   apply dD O.aX;rintro B y⟨z,L⟩;replace z:Own y (Z (D wr)) 5 B b:=aZ;have fq:=(hO.st L).st ((K.rf y).al (aq #[B] 118));have hz:=kr.size;have hF:Fx (λk=>k<Z (D wr)) (λW=>mJ.rel b [B] W) y:=λW u=>⟨B,rfl,gD (ke z u λb hb h=>by have:=(z.lt b hb).1;omega)⟩
   obtain⟨M,c4,rfl,-⟩:=z.slice;have hr:=fL.new (S:=mJ) (e:=118) (v:=F M (Q b) c4) hF 0 (eO _);have H:=(kr.tr L).tr ((K.rf y).al (aq #[F M (Q b) c4] 118));go_wp2_with (at_builtin;refine kI rfl _ _ 125 rfl _ 1 24 UG rfl rfl fq _ rfl b ?p1 ?p2 ?p3 ?_)
   case p1=>exact hr.less λk hk=>by rcases hk with hk|hk;omega;have:=hbv k hk;omega
   case p2=>simp;omega
   case p3=>exact H.size
   intro v9 w9 cR dF _ cN;rw[<- HT.aX]at cR;have k9:=H.trans cN;exact YW
  ·have cd:¬(j:Int)<Q t:=aZ;obtain rfl:j=Q t:=aZ;rw[nN]at hO;exact Sz
structure mj(gl gd:Nat)(vh vr:aQ)(l:List UInt8)(jj room:Nat)(w:aP):Prop where
 dk:ja gd vh l jj room w
 blk:bn w gl 169 #[aj (I ⟨gd,0,U⟩),vr]
 row:∃n xs,n<=Q l/\w.ownsRow 0 118 1 vr n xs
def mm(gl gd:Nat)(vh vr:aQ)(k:Nat):Prop:=k=gl∨aW vr=I k∨mZ gd vh k
structure qu(gl gd:Nat)(vh vr fy yG:aQ)(w w':aP):Prop where
 up:bf (mm gl gd vh vr) w w'
 new:∀k,mm gl gd fy yG k->mm gl gd vh vr k∨Z (D w)<=k
section
variable {gl gd:Nat} {vh vr fy yG Oy anW:aQ} {l:List UInt8} {jj room:Nat} {w w' w'':aP}
theorem mj.st(h:mj gl gd vh vr l jj room w)(k:K w w'):mj gl gd vh vr l jj room w':=by obtain⟨n,xs,hn,j⟩:=h.row;exact⟨h.dk.st k,h.blk.bF k,n,xs,hn,sG j k⟩
theorem mj.lt(h:mj gl gd vh vr l jj room w):∀k,mm gl gd vh vr k->k<Z (D w):=λk hk=>by
 obtain⟨n,xs,hn,j⟩:=h.row;rcases hk with rfl|hk|hk
 ·exact h.blk.lt
 ·exact (j.lt k hk).2
 ·exact h.dk.lt k hk
theorem mj.apart(h:mj gl gd vh vr l jj room w):¬mZ gd vh gl/\(∀k,aW vr=I k->¬mZ gd vh k)/\aW vr≠I gl:=by
 obtain⟨n,xs,hn,j⟩:=h.row;refine⟨λhk=>?_,λk hk y=>?_,λe=>?_⟩
 ·rcases hk with e|e
  ·exact absurd (h.blk.js (e▸h.dk.blk)) bC
  ·obtain⟨cur,h1⟩:=nK h.dk.own e;exact YV
 ·obtain⟨cur,h1⟩:=nK j hk;rcases y with rfl|e
  ·exact absurd (h1.js h.dk.blk) bC
  ·obtain⟨z,t⟩:=nK h.dk.own e;exact absurd (h1.js t) bC
 ·obtain⟨cur,h1⟩:=nK j e;exact YV
theorem mj.KV{l' j}(h:mj gl gd vh vr l jj room w)(d:ja gd fy l' j room w')(u:mi gd vh fy w w')(y:Q l<=Q l'):mj gl gd fy vr l' j room w'/\qu gl gd vh vr fy vr w w':=by
 obtain⟨A,t,-⟩:=h.apart;obtain⟨n,xs,hn,z⟩:=h.row;refine⟨⟨d,h.blk.cA u.up A,n,xs,cI hn y,ke z u.up t⟩,⟨u.up.more λk hk=>aJ (aJ hk),λk hk=>?_⟩⟩;rcases hk with hk|hk|hk
 ·exact aI (aI hk)
 ·exact aI (aJ (aI hk))
 ·exact (u.new k hk).imp (λh=>aJ (aJ h)) id
theorem qu.rf(k:K w w'):qu gl gd vh vr vh vr w w':=⟨bf.bS k _,λ_ h=>aI h⟩
theorem qu.tr(h:qu gl gd vh vr fy yG w w')(k:qu gl gd fy yG Oy anW w' w''):qu gl gd vh vr Oy anW w w'' :=
 ⟨h.up.iA k.up λb hb t=>(h.new b t).resolve_right aZ,λb hb=>(k.new b hb).elim (λj=>h.new b j) λj=>aJ (cI h.up.size j)⟩
end
theorem Rg j:Q j<=Q (frames j):=by
 induction j with
 | nil=>simp
 | cons b j t =>
  grind [frames,eU,fY,Ek,zI]
def qv(l:List UInt8)(j:List (List UInt8))(room:Nat):List UInt8×Int:=if j.all jw then wi l (frames j) room else (l,30)
theorem axy{P e w base ρ} s u j ty z size bytes(T:ir P j e z size bytes) v n vs(y:ρ s=v)(N:w.ownsRow base e size v n vs) B A m c t(H:ρ u=F A m c)(C:Reads w B size A m t)(O:∀u∈t,u.oneCell'=aA)
 (M:(n+m)*(bytes+1)<=140737488355328) (L:base<=Z (D w)) :
 ∃v' w',(aL ρ (bR (.call { callee:=.builtin .append,args:=#[s,u],argTypes:=#[j,j] }) ty)).run P w=.ok (.value v') w'/\w'.ownsRow base e size v' (n+m) (vs++t)/\w.grownBy w' (aW v)/\(aW v'=aW v∨aW v'=I (Z (D w)))/\aN base w w':=by
 obtain⟨v',w',R,h⟩:=Hx (P:=P) w base j ty e z size bytes T v n vs N B A m c t C O M L
 refine⟨v',w',?_,h⟩
 subst y
 simp only[aL,bR,resolve,invoke,builtin,Sem.run_bind,Sem.run_pure,Result.andThen_ok,List.map_toArray,lT,List.map_nil,H,R]
theorem asD gl gd vh vr v l L room rs w(h:mj gl gd vh vr l L room w)(hv:Fx (mm gl gd vh vr) (λW=>bw mJ rs v W) w)(uO:Q rs<=200000)(hb:∀b∈rs,Q b<=1000000000) :
 aK prog 318 #[aj (I ⟨gl,0,U⟩),v] w λe w'=>∃fy yG,e=ak (G J (qv l rs room).2)/\mj gl gd fy yG (qv l rs room).1 L room w'/\qu gl gd vh vr fy yG w w':=by
 have HA:Hid (qv l rs room=if rs.all jw then wi l (frames rs) room else (l,30)):=aY rfl
 have HD:Hid (wi l (frames rs) room=if Q l+Q (frames rs)<=room then (l++frames rs,0)else (l,90)):=aY rfl
 have HF:Hid (CM rs=if rs.all jw then (frames rs,0)else ([],30)):=aY rfl
 generalize qv l rs room=R at *
 have C1:=aY (aey rs v w hv.now uO hb)
 have dM:Q (CM rs).1<=1000000000:=ajH
 have H:=aY h
 have HV:=aY hv
 have HRB:=aY hb
 obtain⟨A,c,rfl⟩:=bD hv.now
 have q:=h.blk.cells
 go_in
 go_wp2_with fail
 refine C1.aX.mono ?_
 rintro e w1⟨v1,rfl,jf,k1⟩
 generalize CM rs=ag at *
 cases hok:rs.all jw
 ·have eW:Hid (ag=([],30)):=aY ajI;have gZ:Hid (R=(l,30)):=aY ajJ;rw[eW.aX];go_wp2;go_ret;exact⟨vh,vr,ND,by rw[gZ.aX];exact H.aX.st k1,qu.rf k1⟩
 have eW:Hid (ag=(frames rs,0)):=aY ajK
 have gZ:Hid (R=wi l (frames rs) room):=aY ajL
 rw[eW.aX]at jf dM⊢
 have S:=aY (H.aX.st k1)
 obtain⟨A1,c1,rfl,-⟩:=jf.slice
 have C2:=aY (aex gd vh _ l (frames rs) L room w1 S.aX.dk (gD jf) dM)
 go_wp2_with fail
 refine C2.aX.mono ?_
 rintro e N⟨C,rfl,jg,jL⟩
 obtain⟨n,xs,hnl,hrow⟩:=S.aX.row
 replace hrow:=ke hrow jL.up S.aX.apart.2.1
 obtain⟨wj,hU2⟩:=S.aX.KV jg jL (by rw[HD.aX];split <;> simp)
 have Y:=aY ((qu.rf k1).tr hU2)
 have j:=aY wj
 have DU:=HV.aX.to Y.aX.up (λ_ h=>h) λk hk hx=>(Y.aX.new k hx).resolve_right aZ
 by_cases hfit:Q l+Q (frames rs)<=room
 rotate_left
 ·have B8:Hid (wi l (frames rs) room=(l,90)):=aY ajM;rw[B8.aX];go_wp2;go_ret;exact⟨C,vr,SA,by rw[gZ.aX];exact j.aX,Y.aX⟩
 have B8:Hid (wi l (frames rs) room=(l++frames rs,0)):=aY ajN
 rw[B8.aX]at j⊢
 obtain⟨-,-,hne⟩:=j.aX.apart
 have q:=j.aX.blk.cells
 go_upto_region 9 with fail
 have anX:=λk hk=>(hrow.lt k hk).2
 have Ox:¬aW vr=I gl:=λe=>hne e
 have qs:=λW (u:bf (λk=>aW vr=I k) N W)=>(j.aX.blk.cA u Ox).cell
 refine Mw 8 [7] (λW=>bf (λk=>aW vr=I k) N W) (λW W'=>W.grownBy W' (aW vr)) (λk vs W=>if k=0 then W.ownsRow 0 118 1 vr n xs else ∃t UK,vs=[t]/\W.ownsRow 0 118 1 t (n+Q rs) UK/\∀b,aW t=I b->aW vr=I b∨Z (D N)<=b)
  [([],[]),([],[]),([1],[(28,1)]),([2],[(29,2)]),([3],[(30,3)]),([],[]),([5],[(32,5)]),([4,6],[(31,4),(33,6)]),([0,1,2,3,4,5,6,7],[(27,0)]),([0,1,2,3,4,5,6,7,8],[(35,8)]),([0,1,2,3,4,5,6,7,9],[(36,9),(34,7)])] 37
  (λ_ _ h k=>h.tr (bf.bS k _)) (λ_ _ h=>Ef h _) (λk vs W W' h kW=>by
   split at h
   ·next B=>rw[bT B];exact sG h kW
   ·next B =>
    rw[bO B];obtain⟨t,UK,e1,M,T⟩:=h;exact⟨t,UK,e1,sG M kW,T⟩) (bf.rf _ _) (λ_=>hrow) ?_
 iterate 6 refine bA.i ?_
 refine bA.c (λv W=>bK (λk=>k<Z (D N)) (Z (D N)) 118 mJ rs v W) (λ_ _ _ h k=>h.up (bf.gy (X:=λk=>aW vr=I k) k λ_ e=>e) anX λk hk=>by have:=anX k hk;omega)
  (λW u=>(Wx rs _ W (DU W (u.more λ_ h=>aJ (aI h))) uO HRB.aX).mono λe w4 ⟨v4,e1,fq,k4⟩=>⟨v4,e1,(fq.low u.size).less λk hk=>cQ hk u.size,k4⟩) ?_
 refine bA.s ?_
 refine⟨⟨⟨_,_,rfl,rfl,rfl,λV W hW hD hp=>?_⟩,trivial⟩,λV W hW hD hA=>?_⟩
 ·simp only[dE,bU,bZ,dA,dB,bM]at hp;obtain⟨e4,hO,-⟩:=hp;obtain⟨A6,c6,e6⟩:=bD hO.bw;rw[e6]at hO;obtain⟨css,rq,-,hE6⟩:=hO;have hrf:=Rg rs;have sA:=j.aX.dk.len;have rA:=j.aX.dk.room;have Pn:Q (l++frames rs)<=1048576:=aZ;change lO _ _ ((aL (bP [(31,4),(33,6)] _ V) (bR (.call { callee:=.builtin .append,args:=#[.tmp 31,.tmp 33],argTypes:=#[125,125] }) 125)).run _ _);obtain⟨t,w9,hrun,M,T,h3,-⟩:=axy (P:=prog) (ρ:=bP [(31,4),(33,6)] _ V) (.tmp 31) (.tmp 33) 125 125 _ 1 24 UG vr n xs (by simp[bP,aC,e4]) hD (Z (D W)) A6 (Q rs) c6 css.flatten (by simp[bP,aC,e6]) (Reads.AW rq) (hE6 W (bf.rf _ _)).ones (by simp only[eU]at Pn;omega) (eO _);rw[hrun];exact⟨hW.tr (bf.gy T λ_ e=>e),T,⟨t,_,rfl,M,λb hb=>h3.elim (λh=>aI (h▸hb)) λh=>aJ ai4⟩,trivial⟩
 simp only[bU,bZ,dx,bM,Nat.reduceAdd]at hA
 obtain⟨e0,-⟩:=hA
 obtain⟨t,UK,e7,oP,fO⟩:=hD
 injection e7 with e7
 have sA:=j.aX.dk.len
 have rA:=j.aX.dk.room
 have O:=j.aX.blk.cA hW Ox
 have zK:ja gd C (l++frames rs) L room W:=by obtain⟨-,a2,-⟩:=j.aX.apart;exact⟨j.aX.dk.blk.cA hW λe=>a2 _ e (aI rfl),ke j.aX.dk.own hW λk hk e=>a2 _ e (aJ hk),sA,rA⟩
 have aD0:aW t≠I gl:=λe=>by obtain⟨cur,M⟩:=nK oP e;exact absurd (M.js O) bC
 have hgd:gl≠gd:=λe=>j.aX.apart.1 (aI e)
 have zL:aW C≠I gl:=λe=>j.aX.apart.1 (aJ e)
 have q9:=O.cell
 have z9:=O.frozen
 obtain⟨z,y,rfl⟩:∃A c,t=F A (n+Q rs) c:=by
  rcases oP.2 with ⟨rfl,B⟩|⟨g,cap,cur,rfl,-⟩
  ·exact⟨_,_,by rw[B]⟩
  ·exact⟨_,_,rfl⟩
 have hA:=aB e0 e7
 have qs:=aB q9 z9
 iterate 2 refine bJ.p ?_
 refine bJ.s ?_
 refine bJ.e ?_
 have u9:bf (λk=>k=gl) W (aV W ⟨gl,1,U⟩ (F z (n+Q rs) y)):=bf.dc (X:=λk=>k=gl) rfl 1 _
 have hV:mj gl gd C (F z (n+Q rs) y) (l++frames rs) L room (aV W ⟨gl,1,U⟩ (F z (n+Q rs) y)):=by refine⟨⟨zK.blk.cA u9 λe=>hgd e.symm,ke zK.own u9 λk hk e=>zL xP,sA,rA⟩,O.cz 1 (F z (n+Q rs) y),_,_,?_,ke oP u9 λk hk e=>aD0 xP⟩;have:=Rg rs;simp only[eU];omega
 have hU:qu gl gd vh vr C (F z (n+Q rs) y) w (aV W ⟨gl,1,U⟩ (F z (n+Q rs) y)):=by
  refine Y.aX.tr ⟨(hW.more λk hk=>aJ (aI hk)).tr (bf.dc (aI rfl) 1 _),λk hk=>?_⟩;rcases hk with hk|hk|hk
  ·exact aI (aI hk)
  ·exact (fO k hk).imp (λh=>aJ (aI h)) id
  ·exact aI (aJ (aJ hk))
 go_wp2
 go_ret
 exact⟨_,_,SA,by rw[gZ.aX,B8.aX];exact hV,hU⟩
theorem aBc l j room:(qv l j room).2=0∨(qv l j room).1=l:=by
 grind [qv,wi]
theorem atj gl gd vh vr v l room j w(h:mj gl gd vh vr l (Q l) room w)(O:Fx (mm gl gd vh vr) (λW=>bw mJ j v W) w)(uO:Q j<=200000)(hb:∀b∈j,Q b<=1000000000) :
 aK prog 293 #[aj (I ⟨gl,0,U⟩),v] w λe w'=>∃N B,e=ak (G J (qv l j room).2)/\mj gl gd N B (qv l j room).1 (Q (qv l j room).1) room w'/\qu gl gd vh vr N B w w':=by
 have X:=aY (asD gl gd vh vr v l (Q l) room j w h O uO hb)
 have HL:=aY (aBc l j room)
 obtain⟨A,c,rfl⟩:=bD O.now
 generalize qv l j room=R at *
 go_in
 go_wp2_with fail
 refine X.aX.mono ?_
 rintro e L⟨z,vr1,rfl,t,y⟩
 by_cases h0:R.2=0
 ·have Y:=aY t;have q:=t.blk.cell;have C2:=aY (auk gd z R.1 (Q l) room L t.dk);have HU:=aY y;have C:=aY h0;rw[h0];go_wp2_with fail
  apply bN C2.aX;rintro w2⟨jg,V⟩;obtain⟨H,T⟩:=Y.aX.KV jg V (bL _);have M:=HU.aX.tr T;go_wp2;go_ret;first
  | exact⟨_,_,by rw[C.aX];rfl,H,M⟩
  | exact⟨by rw[C.aX];rfl,_,_,H,M⟩
 ·have hne:(R.2 != 0)=true:=Ng;have S:mj gl gd z vr1 R.1 (Q R.1) room L:=by have:=HL.aX.resolve_left h0;rw[this]at t⊢;exact t
  go_wp2;go_ret;first
  | exact⟨_,_,rfl,S,y⟩
  | exact⟨rfl,_,_,S,y⟩
def zM(l:List UInt8)(j:List (List UInt8))(room:Nat):List UInt8×Int:=if j.all jw then zJ l (frames j) room else (l,30)
theorem asb gl gd vh vr v l room rs w(h:mj gl gd vh vr l (Q l) room w)(hv:Fx (mm gl gd vh vr) (λW=>bw mJ rs v W) w)(uO:Q rs<=200000)(hb:∀b∈rs,Q b<=1000000000) :
 aK prog 195 #[aj (I ⟨gl,0,U⟩),v] w λe w'=>∃fy yG,e=ak (G J (zM l rs room).2)/\((zM l rs room).2=0->mj gl gd fy yG (zM l rs room).1 (Q (zM l rs room).1) room w')/\ja gd fy (zM l rs room).1 (Q (zM l rs room).1) room w'/\qu gl gd vh vr fy yG w w':=by
 have HA:Hid (zM l rs room=if rs.all jw then zJ l (frames rs) room else (l,30)):=aY rfl
 have HD:Hid (zJ l (frames rs) room=if Q (frames rs)<=room then (frames rs,0)else (l,90)):=aY rfl
 have HF:Hid (CM rs=if rs.all jw then (frames rs,0)else ([],30)):=aY rfl
 generalize zM l rs room=R at *
 have C1:=aY (aey rs v w hv.now uO hb)
 have dM:Q (CM rs).1<=1000000000:=ajH
 have H:=aY h
 have HV:=aY hv
 have HRB:=aY hb
 obtain⟨A,c,rfl⟩:=bD hv.now
 have q:=h.blk.cells
 go_in
 go_wp2_with fail
 refine C1.aX.mono ?_
 rintro e O⟨v1,rfl,V,k1⟩
 generalize CM rs=ag at *
 cases hok:rs.all jw
 ·have Y:Hid (ag=([],30)):=aY ajI;have gZ:Hid (R=(l,30)):=aY ajJ;rw[Y.aX];have z:Hid (((30:Int)=0->mj gl gd vh vr l (Q l) room O)/\ja gd vh l (Q l) room O/\qu gl gd vh vr vh vr w O):=aY ⟨λe=>absurd e bC,(H.aX.st k1).dk,qu.rf k1⟩;go_wp2;go_ret;exact⟨vh,vr,ND,by rw[gZ.aX];exact z.aX⟩
 have Y:Hid (ag=(frames rs,0)):=aY ajK
 have gZ:Hid (R=zJ l (frames rs) room):=aY ajL
 rw[Y.aX]at V dM⊢
 have M:=aY (H.aX.st k1)
 obtain⟨A1,c1,rfl,-⟩:=V.slice
 have C2:=aY (aul gd vh _ l (frames rs) room O M.aX.dk (gD V) dM)
 go_wp2_with fail
 refine C2.aX.mono ?_
 rintro e B⟨t,rfl,N,C⟩
 obtain⟨a1,a2,a3⟩:=M.aX.apart
 have hx2:=M.aX.blk.cA C.up a1
 obtain⟨n,xs,hnl,hrow⟩:=M.aX.row
 replace hrow:=ke hrow C.up a2
 have T:Hid (qu gl gd vh vr t vr w B):=aY ((qu.rf k1).tr ⟨C.up.more λk hk=>aJ (aJ hk),λk hk=>by
  rcases hk with hk|hk|hk
  ·exact aI (aI hk)
  ·exact aI (aJ (aI hk))
  ·exact (C.new k hk).imp (λh=>aJ (aJ h)) id⟩)
 have DU:=HV.aX.to T.aX.up (λ_ h=>h) λk hk hx=>(T.aX.new k hx).resolve_right aZ
 by_cases hfit:Q (frames rs)<=room
 rotate_left
 ·have B8:Hid (zJ l (frames rs) room=(l,90)):=aY ajM;rw[B8.aX]at N⊢;have z:Hid (((90:Int)=0->mj gl gd t vr l (Q l) room B)/\ja gd t l (Q l) room B/\qu gl gd vh vr t vr w B):=aY ⟨λe=>absurd e bC,N,T.aX⟩;go_wp2;go_ret;exact⟨t,vr,SA,by rw[gZ.aX,B8.aX];exact z.aX⟩
 have B8:Hid (zJ l (frames rs) room=(frames rs,0)):=aY ajN
 rw[B8.aX]at N⊢
 have C3:=aY (Wx rs _ B DU.now uO HRB.aX)
 have Po:=aY N
 have q:=hx2.cells
 have iR:=hx2.lt
 go_wp2_with fail
 refine C3.aX.mono ?_
 rintro e y⟨j,rfl,dH,k3⟩
 obtain⟨css,L,aD1,Ly⟩:=dH
 have iH:=hx2.below k3 iR
 have aD2:aW j≠I gl:=λe=>by have:=(L.lt gl e).1;omega
 have hgd:gl≠gd:=λe=>a1 (aI e)
 have zL:aW t≠I gl:=λe=>by obtain⟨cur,h1⟩:=nK Po.aX.own e;exact Sv
 have u9:bf (λk=>k=gl) y (aV y ⟨gl,1,U⟩ j):=bf.dc (X:=λk=>k=gl) rfl 1 _
 have S:=Po.aX.st k3
 have hV:mj gl gd t j (frames rs) (Q (frames rs)) room (aV y ⟨gl,1,U⟩ j) :=
  ⟨⟨S.blk.cA u9 λe=>hgd e.symm,ke S.own u9 λk hk e=>zL xP,S.len,S.room⟩,iH.cz 1 j,_,_,Rg rs,oy (eO _) (ke L u9 λk hk e=>aD2 xP)⟩
 have hU:qu gl gd vh vr t j w (aV y ⟨gl,1,U⟩ j):=by
  refine T.aX.tr ⟨(bf.bS k3 _).tr (bf.dc (aI rfl) 1 _),λk hk=>?_⟩;rcases hk with hk|hk|hk
  ·exact aI (aI hk)
  ·exact aJ (L.lt k hk).1
  ·exact aI (aJ (aJ hk))
 have z:Hid (((0:Int)=0->mj gl gd t j (frames rs) (Q (frames rs)) room (aV y ⟨gl,1,U⟩ j))/\ja gd t (frames rs) (Q (frames rs)) room (aV y ⟨gl,1,U⟩ j)/\qu gl gd vh vr t j w (aV y ⟨gl,1,U⟩ j)):=aY ⟨λ_=>hV,hV.dk,hU⟩
 obtain⟨A3,c3,rfl⟩:=bD (bK.bw ⟨css,L,aD1,Ly⟩)
 have z3:=iH.frozen
 go_wp2
 go_ret
 exact⟨_,_,SA,by rw[gZ.aX,B8.aX];exact⟨λ_=>z.aX.1 (by first|trivial|rfl),z.aX.2⟩⟩
theorem aes gl vd vr j w(y:bn w gl 169 #[vd,vr])(t:bw mJ j vr w)(C:Q j<=200000)(hb:∀b∈j,Q b<=1000000000) :
 aK prog 48 #[aj (I ⟨gl,0,U⟩)] w λe w'=>∃v',e=ak v'/\bK (λk=>k<Z (D w)) (Z (D w)) 118 mJ j v' w'/\K w w':=by
 have z:=aY (Wx j vr w t C hb)
 obtain⟨A,c,rfl⟩:=bD t
 have q:=y.cell
 go_in
 go_wp2_with fail
 apply dD z.aX
 rintro H L⟨B,k1⟩
 go_wp2
 go_ret
 exact⟨_,rfl,B,k1⟩
theorem ae7 gd vh j{L} room w(h:ja gd vh (frames j) L room w)(hok:∀b∈j,jw b=aA) :
 aK prog 46 #[aj (I ⟨gd,0,U⟩)] w λe w'=>∃gl vr,e=ak (au #[aj (I ⟨gl,0,U⟩),G J 0])/\Z (D w)<=gl/\bn w' gl 169 #[aj (I ⟨gd,0,U⟩),vr]/\bK (λk=>k<Z (D w)) (Z (D w)) 118 mJ j vr w'/\ja gd vh (frames j) (Q (frames j)) room w'/\bf (mZ gd vh) w w':=by
 have:=h.len
 have:=h.room
 have V:=aY (ae5 gd vh (frames j) L room w h)
 have H:=aY h
 go_in
 go_wp2_with fail
 refine V.aX.mono ?_
 rintro e t⟨M,rfl,jf,k1⟩
 have mc:∃A c,M=F A (Q (frames j)) c/\Reads t (Z (D t)) 1 A (Q (frames j)) (fM (frames j))/\Q (frames j)<=c:=by
  have R:t.ownsRow (Z (D w)) 5 1 M (Q (frames j)) (fM (frames j)):=jf;have y:=R;rcases R.2 with ⟨rfl,O⟩|⟨g,cap,cur,rfl,-,-,h1,-⟩
  ·exact⟨_,_,by rw[O],by rw[O]at y⊢;exact Reads.AW y,aZ⟩
  ·exact⟨_,_,rfl,Reads.AW y,h1⟩
 obtain⟨A1,c1,rfl,mG,aD3⟩:=mc
 have C2:=aY (auj j _ t A1 c1 rfl mG aD3 aZ hok)
 go_wp2_with fail
 refine C2.aX.mono ?_
 rintro e w2⟨v2,rfl,Y,k2⟩
 have C:=k1.tr k2
 have C3:=aY (avF gd vh (frames j) L room w2 (H.aX.st C))
 have zP:=aY Y
 go_wp2_with fail
 refine C3.aX.mono ?_
 rintro e w3⟨rfl,hd3,B⟩
 have T:=H.aX.lt
 have N:=k1.size
 have X:=((zP.aX.less λk hk=>cQ hk N).up B.up (λk hk=>T k hk) (λk hk=>by have:=T k hk;omega)).low N
 have mf:=cI C.size B.up.size
 have hb:=bn.new w3 169 #[aj (I ⟨gd,0,U⟩),v2]
 have z:=hb.cC
 have S:=X.st z
 have W:=hd3.st z
 have hu4:=((bf.bS C _).tr B.up).tr (bf.bS z _)
 obtain⟨A2,c2,rfl⟩:=S.slice
 go_wp2
 go_ret2
 exact⟨_,_,rfl,mf,hb,S,W,hu4⟩
theorem aDl M w:nF M eP (F U 0 0) (F U 0 0) (F U 0 0) w:=λ_ _=>⟨gN _ _,gN _ _,gN _ _⟩
theorem aBd l v w(h:bw mJ l v w)(hlen:Q l<=800000)(hb:∀b∈l,Q b<=1000000000) :
 aK prog 47 #[v] w λe w'=>∃vl vp va,e=ak (au #[av (dY (vN l).1 vl vp va),G J (vN l).2])/\nF (λk=>k<Z (D w)) (vN l).1 vl vp va w'/\K w w':=by
 obtain⟨aT,d,rfl,hl,-⟩:=h
 have HL:=aY hl
 generalize ho:vN l=o
 have HO:=aY ho
 obtain⟨B,co⟩:=o
 clear ho
 have HB:=aY hb
 have N:=(bn.new w 61 ot).alloc (aq ot 61)
 have R:=bn.new (aU w (aq ot 61)) 61 ot
 have k0:=K.lK w (aq ot 61) (aq ot 61)
 rw[World.size_alloc]at R
 clear hl hb
 go_in
 go_wp2
 go_step3
 go_wp2_with fail
 go_step3
 generalize ay (ay w _) _=w0 at *
 generalize jJ:Z (D w)=X at N R⊢
 obtain⟨base,hbase⟩:∃b,b=X+1:=⟨_,rfl⟩
 have HS0:=aY (show BX base (X+1) eP w0 from ⟨_,_,_,gA.nil (n:=0) (l:=[]) R aZ (bK.nil _ _ _ _ _)⟩)
 have hlow:base<=Z (D w0):=by have:=R.lt;omega
 have kk:aN base w0 w0:=ed _ _
 clear R
 go_wp2_with fail
 go_loopw [5,7,8,9,12] (fun f _ _ _ i W=>∃j:Nat,j<=Q l/\i=G J j/\f=G J 0/\Hid ((jG eP (l.take j)).2=0)/\Hid (BX base (X+1) (jG eP (l.take j)).1 W)/\aN base w0 W) (fun _ _ _ _ i _=>Q l-(aO i).toNat)
 case atStart=>exact⟨0,aZ,rfl,rfl,aY cY,aY ic,kk⟩
 case round =>
  clear kk HS0;obtain⟨j,hj,rfl,rfl,HZ,C,M⟩:=hrel;have kr:K w wr:=k0.trans (M.mono aZ);by_cases H:j<Q l
  ·have cd:(j:Int)<Q l:=aZ;obtain⟨b1,off,cs,rfl,hcl,hrl,d0,-⟩:=eN HL.aX j H bC;have HN:=aY (agr H HZ.aX);have Gv:=aY (λc=>azv H HZ.aX (c:=c));have dt:=HB.aX _ (dG H);have hsz:=azu (l.take j) eP;simp only[qN,show Q eP.list=0 from rfl,show Q eP.prom=0 from rfl,show Q eP.ab=0 from rfl]at hsz;generalize l[j]=b at *;generalize (jG eP (l.take j)).1=s at *;obtain⟨vb,rfl,mc⟩:=hrl wr kr;have hv:∃A c,vb=F A (Q b) c:=by obtain⟨A,c,h,_⟩:=mc;exact⟨A,c,h⟩
   obtain⟨Ab,cb,rfl⟩:=hv;have q0:wr.cell? ⟨b1,off+j,U⟩=I (F Ab (Q b) cb):=by
    grind
   have C1:=aY (atf b _ wr mc dt);clear hrl hcl d0 mc;go_wp2_with fail
   refine C1.aX.mono ?_;rintro e V⟨v',rfl,Ca,k2⟩;have zH:=aY Ca;obtain⟨vf,ve,rfl,hf,he⟩:=Ca V (bV.rf _ _ _);obtain⟨Af,cf,rfl⟩:=dK hf;obtain⟨Ae,ce,rfl⟩:=bD he;have O:=bn.new V 171 (gP (wO b) (F Af (Q (wO b).e.f) cf) (F Ae (Q (wO b).e.es) ce));have S:=O.cC;have Y:=k2.tr S;have hone:Hid (uv s b=if wP b=0 then oD s (wO b)else (s,wP b)):=aY rfl;have HDR:=aY (@avz b);clear Ca hf he C1 q0;generalize wP b=c at *;by_cases hc:c=0
   ·subst hc;obtain⟨x,hx1,hx2⟩:=HDR.aX rfl;have HFX:=aY (avy hx1);have HOX:=aY (auc (at6 hx1).2);rw[hx2]at hone zH O S Y⊢;clear hx1 hx2 HDR;go_upto_region 8 with fail;generalize V.alloc _=w3 at *;generalize Z (D V)=g8 at O⊢;obtain⟨vl,vp,va,hS⟩:=C.aX;have fw:=cI hlow M.size;have UE:Pf base (X+1) s x vl vp va (av (gP x (F Af (Q x.e.f) cf) (F Ae (Q x.e.es) ce))) w3 :=
     ⟨hS.st Y,λW u=>zH.aX W ((bV.bS S _ _).tr (u.uE λk h1 _ _ e=>by have:=hS.lt fw k (aJ e);have:=k2.size;omega)),cI fw Y.size,⟨aZ,aZ,aZ⟩,HOX.aX,HFX.aX⟩
    have C2:=aY (aho w3 UE);have q3:=O.cell;have UL:=M.trans (Y.mono (cI hlow M.size));clear UE hS C zH O S;go_wp2_with fail
    refine C2.aX.mono ?_;rintro e w4⟨rfl,L,hb4⟩;have UM:=aY L;have kb4:=UL.trans hb4;have ant:=hone.aX.trans (bT bq);have aa7:=aY ant;clear L q3 C2 hone ant;generalize oD s x=o at *;obtain⟨s',e'⟩:=o;by_cases he':e'=0
    ·subst he';have GD:Hid ((jG eP (l.take (j+1))).2=0):=aY (by rw[HN.aX,aa7.aX]);have HS5:Hid (BX base (X+1) (jG eP (l.take (j+1))).1 w4):=aY (by rw[HN.aX,aa7.aX];exact UM.aX);go_wp2;go_roundw
     case rel=>exact⟨j+1,aZ,cU,rfl,GD,HS5,kb4⟩
     case measure=>simp[aO];omega
    ·have t:=Gv.aX e' (by rw[aa7.aX]) he';rw[HO.aX]at t;obtain⟨rfl,rfl⟩:=Prod.mk.inj t;clear t Gv HN UM;have y:=(N.below kb4 aZ);have z:=y.frozen;have T:=y.cell;obtain⟨cN,k9,-⟩:=N7 eP (F U 0 0) (F U 0 0) (F U 0 0) y rfl (k0.trans (kb4.mono aZ)) aZ;rw[show ((eP.life:Nat):Int)=0 from rfl]at cN k9;clear N H cd y;go_wp2;clear z T;generalize ax (ax (ax (ax w4 _ _) _ _) _ _) _ _=W9 at *;exact ajO
   ·have t:=Gv.aX c (by rw[hone.aX,bO hc]) hc;rw[HO.aX]at t;obtain⟨rfl,rfl⟩:=Prod.mk.inj t;have UL:=M.trans (Y.mono (cI hlow M.size));go_upto_region 7 with fail;generalize V.alloc _=w3 at *;clear t Gv HN C O S zH;have y:=(N.below UL aZ);have z:=y.frozen;have T:=y.cell;obtain⟨cN,k9,-⟩:=N7 eP (F U 0 0) (F U 0 0) (F U 0 0) y rfl (k0.trans (UL.mono aZ)) aZ;rw[show ((eP.life:Nat):Int)=0 from rfl]at cN k9;clear N H cd y;go_wp2;clear z T;generalize ax (ax (ax (ax w3 _ _) _ _) _ _) _ _=W9 at *;exact ajO
  ·have cd:¬(j:Int)<Q l:=aZ;have t:=HZ.aX;rw[iw aZ]at t C;have t:=axj t;rw[HO.aX]at t;obtain⟨uP,rfl⟩:=Prod.mk.inj t;rw[<- uP]at C;obtain⟨vl,vp,va,L⟩:=C.aX;obtain⟨⟨El,fl,rfl⟩,⟨Ep,fp,rfl⟩,Ea,fa,rfl⟩:=L.slices;have q:=L.blk.cell;have y:=N.below M aZ;have z:=y.frozen;have T:=y.cell;obtain⟨cN,k9,u9⟩:=N7 B (F El (Q B.list) fl) (F Ep (Q B.prom) fp) (F Ea (Q B.ab) fa) y rfl kr aZ;have H9:=aY (aB (L.fx.up u9 λk e=>show k<base by omega) k9);clear L C N t HZ H HO uP y k9 u9;go_wp2;clear q z T;generalize ax (ax (ax (ax wr _ _) _ _) _ _) _ _=W9 at *;have e9:=cN.cell;try rw[jt]
   refine aM (v:=au #[av (dY B (F El (Q B.list) fl) (F Ep (Q B.prom) fp) (F Ea (Q B.ab) fa)),G J 0]) (by simp[results,results47,go_sem,e9]) rfl ?_;exact⟨_,_,_,rfl,H9.aX.1.less λk h=>aZ,H9.aX.2⟩
def II(l:List (List UInt8)):Prop:=∀(v:aQ) (w:aP),bw mJ l v w->aK prog 47 #[v] w λe w'=>∃vl vp va,e=ak (au #[av (dY (vN l).1 vl vp va),G J (vN l).2])/\nF (λk=>k<Z (D w)) (vN l).1 vl vp va w'/\K w w'
theorem II.all{l}(j:Q l<=800000)(hb:∀b∈l,Q b<=1000000000):II l:=λv w h=>aBd l v w h j hb
theorem aum s v w(h:pF s v w)(hz:Q s.list<=300000/\Q s.prom<=300000/\Q s.ab<=300000)(hok:∀r∈eY s,fK r=aA/\lH r) :
 aK prog 194 #[v] w λe w'=>∃v',e=ak (au #[v',G J 0])/\cE (Z (D w)) (Z (D w)) 118 mJ ((eY s).map dw) v' w'/\K w w':=by
 obtain⟨vl,vp,va,rfl,hl,hp,ha⟩:=h
 obtain⟨Al,cl,rfl,hl,-⟩:=hl
 obtain⟨Ap,cp,rfl,hp,-⟩:=hp
 obtain⟨Aa,ca,rfl,ha,-⟩:=ha
 have fG:=bn.new w 61 (dY s (F Al (Q s.list) cl) (F Ap (Q s.prom) cp) (F Aa (Q s.ab) ca))
 have k1:=fG.cC
 have HL:=aY hl
 have HP:=aY hp
 have HA:=aY ha
 have j8:=aY hok
 have H1L:=ahp s.life
 obtain⟨z,mG⟩:∃R,R=ye s.life:=⟨_,rfl⟩
 have hS:eY s=z++nT s.list++mS s.prom++rW s.ab:=by rw[mG];rfl
 generalize eY s=M at *
 have HS:=aY hS
 have Cb:=aY mG
 rw[<- mG]at H1L
 clear hl hp ha hok mG hS
 go_in
 go_upto_region 2 with fail
 generalize w.alloc _=L at *
 generalize jJ:Z (D w)=gp at fG⊢
 obtain⟨base,hbase⟩:∃b,Hid (b=Z (D L)):=⟨_,aY rfl⟩
 have:=fG.cells
 have Y:=K.rf L
 clear fG
 go_upto_if 18 with fail
 go_cut [4]from 18 to 24 (fun v4 W=>Hid (cE base 0 171 x7 z v4 W)/\K L W)
 case first =>
  by_cases h0:s.life=0
  ·have HQ:Hid (z=[]):=aY (by rw[Cb.aX,ye,bT h0]);have h0i:((s.life:Int) != 0)=false:=by rw[h0];rfl
   clear h0;go_wp2;go_meet
   case rel=>exact⟨aY (by rw[HQ.aX];exact cE.nil _ _ _ _ _),Y⟩
  ·have HQ:Hid (z=[⟨1,s.life,fo,0,0,0⟩]):=aY (by rw[Cb.aX,ye,bO h0]);have h0i:((s.life:Int) != 0)=true:=cG;have kA:=K.new L (aq (gP ⟨1,s.life,fo,0,0,0⟩ (F U 0 0) (F U 0 0)) 171);have Bd:base<=Z (D (aU L (aq (gP ⟨1,s.life,fo,0,0,0⟩ (F U 0 0) (F U 0 0)) 171))):=by rw[hbase.aX];exact kA.size
   clear h0;go_wp2_with (at_builtin;refine j9 rfl _ _ 335 rfl base 171 _ 13 136 TX (F U 0 0) 0 [] rfl (mr _ _ _ _) (Z (D L)+1) _ 1 1 (gP ⟨1,s.life,fo,0,0,0⟩ (F U 0 0) (F U 0 0)).toList rfl ?c1 ?c2 ?c3 Bd ?_)
   case c1=>exact Reads.new L (gP ⟨1,s.life,fo,0,0,0⟩ (F U 0 0) (F U 0 0)).toList 171 13 1 rfl
   case c2=>and_intros <;> rfl
   case c3=>omega
   intro v9 O jc dF fO cN;have k9:K L O:=kA.trans (cN.mono SB);have cR:cE base 0 171 x7 z v9 O:=by rw[HQ.aX];exact cE.snoc (S:=x7) (l:=[]) (css:=[]) (lo:=0) rfl (λw' u=>Each.nil _ _) jc dF vE (λw' u=>⟨_,_,rfl,⟨U,0,rfl,Reads.nil _ _ _ _⟩,gN _ _⟩)
   have DV:=aY cR;clear jc dF fO cN cR Bd kA;go_wp2;go_meet
   case rel=>exact⟨DV,k9⟩
 case rest =>
 obtain⟨zQ,Y⟩:=hcut
 go_wp2_with fail
 go_loopw [4,5,6,28] (fun v4 _ _ i W=>∃j:Nat,j<=Q s.list/\i=G J j/\Hid (cE base 0 171 x7 (z++nT (s.list.take j)) v4 W)/\K L W) (fun _ _ _ i _=>Q s.list-(aO i).toNat)
 case atStart=>exact⟨0,aZ,rfl,aY (by simpa [nT]using zQ.aX),Y⟩
 case round =>
  clear Y zQ;obtain⟨j,hj,rfl,t,kr⟩:=hrel;by_cases hlt:j<Q s.list
  ·have cd:(j:Int)<Q s.list:=aZ;obtain⟨b1,off,cs,rfl,jU,hrl,C,d⟩:=eN HL.aX j hlt bC;have HT:=aY (axk s.list j hlt);have BM:Hid (Q (z++nT (s.list.take j))<=900001):=aY (by simp only[eU,M7,qN];omega);generalize s.list[j]=x at *;have s6:=k1.tr kr;obtain⟨vf,ve,rfl,hf,he⟩:=hrl w (K.rf w);have mV:Hid (∀W,K w W->fc x (av (bQ x vf ve)) W):=aY λW k=>by exact YX
   have C:wr.cell? ⟨b1,off+j*8,U⟩=I (G J x.kind):=C wr s6;have d:∀i,i<8->wr.cell? ⟨b1,off+j*8+i,U⟩=(bQ x vf ve)[i]?:=λi hi=>(d wr s6 i hi).trans aD
   obtain⟨X,cf,rfl⟩:=dK hf;obtain⟨T,V,rfl⟩:=bD he;have y:=bn.new wr 128 (bQ x (F X (Q x.f) cf) (F T (Q x.es) V));have H:=y.cC;clear hrl jU hf he;go_upto_region 7 with fail;clear d C;have fu:=t.aX.st H;generalize wr.alloc _=B at *;generalize Z (D wr)=ge at y⊢;replace kr:=kr.tr H;have UN:=k1.tr kr;have q5:=y.cell;have oQ:=fu.blk;obtain⟨css,hown,hcl,oR⟩:=fu;have ko:=BM.aX;generalize Cc:z++nT (s.list.take j)=RJ at *;have Cc:=aY Cc;have kA:=K.new B (aq (gP ⟨2,j,x,0,0,0⟩ (F X (Q x.f) cf) (F T (Q x.es) V)) 171);have Bd:base<=Z (D (aU B (aq (gP ⟨2,j,x,0,0,0⟩ (F X (Q x.f) cf) (F T (Q x.es) V)) 171))):=YY;have Bv:=λk e=>(oQ k e).1
   simp only[hbase.aX]at Bv;have UO:=aY λk e=>cI k1.size (Bv k e)
   clear t H y oQ Bv;go_wp2_with (at_builtin;refine j9 rfl _ _ 335 rfl base 171 _ 13 136 TX _ _ _ rfl (sK hown _) (Z (D B)+1) _ 1 1 (gP ⟨2,j,x,0,0,0⟩ (F X (Q x.f) cf) (F T (Q x.es) V)).toList rfl ?c1 ?c2 ?c3 Bd ?_)
   case c1=>exact Reads.new B (gP ⟨2,j,x,0,0,0⟩ (F X (Q x.f) cf) (F T (Q x.es) V)).toList 171 13 1 rfl
   case c2=>and_intros <;> rfl
   case c3=>omega
   intro v9 O jc dF fO cN;have k9:K L O:=(kr.tr kA).trans (cN.mono SB);have DV:Hid (cE base 0 171 x7 (z++nT (s.list.take (j+1))) v9 O):=aY (by
    rw[HT.aX,<- fN,Cc.aX];exact cE.snoc (S:=x7) (lo:=0) hcl (λw' u=>oR w' (bV.tr (bV.bS kA _ _) u)) jc dF vE (λw' u=>ana (k:=2) (n:=j) (a:=(0,0,0)) (mV.aX w' ((bV.tr (bV.bS kA _ _) u).k UN UO.aX))))
   exact SC
  ·have cd:¬(j:Int)<Q s.list:=aZ;rw[iw aZ]at t;have zQ:=t;have Y:=kr;clear t kr hj hlt;go_wp2_with fail
   clear cd;go_loopw [4,8,44] (fun v4 _ i W=>∃j:Nat,j<=Q s.prom/\i=G J j/\Hid (cE base 0 171 x7 (z++nT s.list++mS (s.prom.take j)) v4 W)/\K L W) (fun _ _ i _=>Q s.prom-(aO i).toNat)
   case atStart=>exact⟨0,aZ,rfl,aY (by simpa [mS]using zQ.aX),Y⟩
   case round =>
    clear Y zQ;obtain⟨j,hj,rfl,t,kr⟩:=hrel;by_cases hlt:j<Q s.prom
    ·have cd:(j:Int)<Q s.prom:=aZ;obtain⟨b1,off,cs,rfl,jU,hrl,C,d⟩:=eN HP.aX j hlt bC;have HT:=aY (axl s.prom j hlt);have BM:Hid (Q (z++nT s.list++mS (s.prom.take j))<=900001):=aY (by simp only[eU,M7,RG,qN];omega);generalize s.prom[j]=x at *;have s6:=k1.tr kr;obtain⟨vf,ve,rfl,hf,he⟩:=hrl w (K.rf w);have mV:Hid (∀W,K w W->fc x (av (bQ x vf ve)) W):=aY λW k=>by exact YX
     have C:wr.cell? ⟨b1,off+j*8,U⟩=I (G J x.kind):=C wr s6;have d:∀i,i<8->wr.cell? ⟨b1,off+j*8+i,U⟩=(bQ x vf ve)[i]?:=λi hi=>(d wr s6 i hi).trans aD
     obtain⟨X,cf,rfl⟩:=dK hf;obtain⟨T,V,rfl⟩:=bD he;have y:=bn.new wr 128 (bQ x (F X (Q x.f) cf) (F T (Q x.es) V));have H:=y.cC;clear hrl jU hf he;go_upto_region 12 with fail;clear d C;have fu:=t.aX.st H;generalize wr.alloc _=B at *;generalize Z (D wr)=ge at y⊢;replace kr:=kr.tr H;have UN:=k1.tr kr;have q5:=y.cell;have oQ:=fu.blk;obtain⟨css,hown,hcl,oR⟩:=fu;have ko:=BM.aX;generalize Cc:z++nT s.list++mS (s.prom.take j)=RJ at *;have Cc:=aY Cc;have kA:=K.new B (aq (gP ⟨3,0,x,0,0,0⟩ (F X (Q x.f) cf) (F T (Q x.es) V)) 171);have Bd:base<=Z (D (aU B (aq (gP ⟨3,0,x,0,0,0⟩ (F X (Q x.f) cf) (F T (Q x.es) V)) 171))):=YY;have Bv:=λk e=>(oQ k e).1
     simp only[hbase.aX]at Bv;have UO:=aY λk e=>cI k1.size (Bv k e)
     clear t H y oQ Bv;go_wp2_with (at_builtin;refine j9 rfl _ _ 335 rfl base 171 _ 13 136 TX _ _ _ rfl (sK hown _) (Z (D B)+1) _ 1 1 (gP ⟨3,0,x,0,0,0⟩ (F X (Q x.f) cf) (F T (Q x.es) V)).toList rfl ?c1 ?c2 ?c3 Bd ?_)
     case c1=>exact Reads.new B (gP ⟨3,0,x,0,0,0⟩ (F X (Q x.f) cf) (F T (Q x.es) V)).toList 171 13 1 rfl
     case c2=>and_intros <;> rfl
     case c3=>omega
     intro v9 O jc dF fO cN;have k9:K L O:=(kr.tr kA).trans (cN.mono SB);have DV:Hid (cE base 0 171 x7 (z++nT s.list++mS (s.prom.take (j+1))) v9 O):=aY (by
      rw[HT.aX,<- fN,Cc.aX];exact cE.snoc (S:=x7) (lo:=0) hcl (λw' u=>oR w' (bV.tr (bV.bS kA _ _) u)) jc dF vE (λw' u=>ana (k:=3) (n:=0) (a:=(0,0,0)) (mV.aX w' ((bV.tr (bV.bS kA _ _) u).k UN UO.aX))))
     exact SC
    ·have cd:¬(j:Int)<Q s.prom:=aZ;rw[iw aZ]at t;have zQ:=t;have Y:=kr;clear t kr hj hlt;go_wp2_with fail
     clear cd;go_loopw [4,10,57] (fun v4 _ i W=>∃j:Nat,j<=Q s.ab/\i=G J j/\Hid (cE base 0 171 x7 (z++nT s.list++mS s.prom++rW (s.ab.take j)) v4 W)/\K L W) (fun _ _ i _=>Q s.ab-(aO i).toNat)
     case atStart=>exact⟨0,aZ,rfl,aY (by simpa [rW]using zQ.aX),Y⟩
     case round =>
      clear Y zQ;obtain⟨j,hj,rfl,t,kr⟩:=hrel;by_cases hlt:j<Q s.ab
      ·have cd:(j:Int)<Q s.ab:=aZ;obtain⟨b1,off,cs,rfl,jU,hrl,C,d⟩:=eN HA.aX j hlt bC;have HT:=aY (axm s.ab j hlt);have BM:Hid (Q (z++nT s.list++mS s.prom++rW (s.ab.take j))<=900001):=aY aBe;generalize s.ab[j]=x at *;have s6:=k1.tr kr;obtain rfl:=hrl w (K.rf w);have C:wr.cell? ⟨b1,off+j*3,U⟩=I (G J x.1):=C wr s6;have d:∀i,i<3->wr.cell? ⟨b1,off+j*3+i,U⟩=(#[G J x.1,G E x.2.1,G E x.2.2]:Array aQ)[i]?:=λi hi=>(d wr s6 i hi).trans aD
       have y:=bn.new wr 42 #[G J x.1,G E x.2.1,G E x.2.2];have H:=y.cC;clear hrl jU;go_upto_region 17 with fail;clear d C;have fu:=t.aX.st H;generalize wr.alloc _=B at *;generalize Z (D wr)=ge at y⊢;replace kr:=kr.tr H;have UN:=k1.tr kr;have q5:=y.cell;have oQ:=fu.blk;obtain⟨css,hown,hcl,oR⟩:=fu;have ko:=BM.aX;generalize Cc:z++nT s.list++mS s.prom++rW (s.ab.take j)=RJ at *;have Cc:=aY Cc;have kA:=K.new B (aq (gP ⟨4,0,fo,x.1,x.2.1,x.2.2⟩ (F U 0 0) (F U 0 0)) 171);have Bd:base<=Z (D (aU B (aq (gP ⟨4,0,fo,x.1,x.2.1,x.2.2⟩ (F U 0 0) (F U 0 0)) 171))):=YY;have Bv:=λk e=>(oQ k e).1
       simp only[hbase.aX]at Bv;have UO:=aY λk e=>cI k1.size (Bv k e)
       clear t H y oQ Bv;go_wp2_with (at_builtin;refine j9 rfl _ _ 335 rfl base 171 _ 13 136 TX _ _ _ rfl (sK hown _) (Z (D B)+1) _ 1 1 (gP ⟨4,0,fo,x.1,x.2.1,x.2.2⟩ (F U 0 0) (F U 0 0)).toList rfl ?c1 ?c2 ?c3 Bd ?_)
       case c1=>exact Reads.new B (gP ⟨4,0,fo,x.1,x.2.1,x.2.2⟩ (F U 0 0) (F U 0 0)).toList 171 13 1 rfl
       case c2=>and_intros <;> rfl
       case c3=>omega
       intro v9 O jc dF fO cN;have k9:K L O:=(kr.tr kA).trans (cN.mono SB);have DV:Hid (cE base 0 171 x7 (z++nT s.list++mS s.prom++rW (s.ab.take (j+1))) v9 O):=aY (by
        rw[HT.aX,<- fN,Cc.aX];exact cE.snoc (S:=x7) (lo:=0) hcl (λw' u=>oR w' (bV.tr (bV.bS kA _ _) u)) jc dF vE (λw' u=>⟨_,_,rfl,⟨U,0,rfl,Reads.nil _ _ _ _⟩,gN _ _⟩))
       exact SC
      ·have cd:¬(j:Int)<Q s.ab:=aZ;rw[iw aZ]at t;have zQ:=t;have Y:=kr;clear t kr hj hlt;rw[<- HS.aX]at zQ;have ko:Q M<=900001:=by rw[HS.aX];simp only[eU,M7,RG,XK];omega
       obtain⟨A4,c4,rfl,p9,-⟩:=zQ.aX.bw;have HR:=aY p9;clear zQ p9 HL HP HA;generalize wr=w2 at *;have k2:=Y;obtain⟨N,hb2⟩:∃b,Hid (b=Z (D w2)):=⟨_,aY rfl⟩;have zS:Hid (cE N N 118 mJ ([]:List (List UInt8)) (F U 0 0) w2):=aY (cE.nil _ _ _ _ _);go_wp2_with fail
       clear cd;go_loopw [11,13,14,15,69] (fun o _ _ _ i W=>∃j:Nat,j<=Q M/\i=G J j/\Hid (cE N N 118 mJ ((M.take j).map dw) o W)/\K w2 W) (fun _ _ _ _ i _=>Q M-(aO i).toNat)
       case atStart=>exact⟨0,aZ,rfl,zS,K.rf _⟩
       case round =>
        clear Y zS;obtain⟨j,hj,rfl,t,kr⟩:=hrel;by_cases hlt:j<Q M
        ·have cd:(j:Int)<Q M:=aZ;obtain⟨b1,off,cs,rfl,jU,hrl,C,d⟩:=eN HR.aX j hlt bC;have HT:Hid ((M.take (j+1)).map dw=(M.take j).map dw++[dw M[j]]):=aY YZ;have BM:Hid (Q ((M.take j).map dw)<=900001):=aY (by simp only[List.length_map,qN];omega);obtain⟨hok,hfit⟩:=j8.aX _ (dG hlt);generalize M[j]=r at *;obtain⟨vf,ve,rfl,hf,he⟩:=hrl w2 (K.rf w2);have zH:Hid (∀W,K w2 W->si r (av (gP r vf ve)) W):=aY λW k=>by exact YX
         have C:wr.cell? ⟨b1,off+j*13,U⟩=I (G J r.kind):=C wr kr;have d:∀i,i<13->wr.cell? ⟨b1,off+j*13+i,U⟩=(gP r vf ve)[i]?:=λi hi=>(d wr kr i hi).trans aD
         obtain⟨X,cf,rfl⟩:=dK hf;obtain⟨T,V,rfl⟩:=bD he;have y:=bn.new wr 171 (gP r (F X (Q r.e.f) cf) (F T (Q r.e.es) V));have H:=y.cC;have hc:wR r=0:=YC;have hE:Cz r=dw r:=YD;have C1:=aY λW (kW:K w2 W)=>XH r _ W (zH.aX W kW) hfit
         simp only[hc,hE]at C1;clear hrl jU hf he hok hfit hc hE;go_upto_region 23 with fail;clear d C;have fu:=t.aX.st H;generalize wr.alloc _=B at *;generalize Z (D wr)=ge at y⊢;replace kr:=kr.tr H;have q5:=y.cell;clear t H y;have HO5:=aY fu;clear fu;go_wp2_with fail
         have UQ:Hid (N<=Z (D B)):=aY (by rw[hb2.aX];exact kr.size);refine (C1.aX B kr).mono ?_;rintro e w6⟨vb,rfl,fS,k6⟩;have mo:=HO5.aX.st k6;replace kr:=kr.tr k6;obtain⟨Ab,cb,rfl⟩:∃A c,vb=F A (Q (dw r)) c:=by obtain⟨A,c,h,_⟩:=gD fS;exact⟨A,c,h⟩
         have oQ:=mo.blk;obtain⟨css,hown,hcl,oR⟩:=mo;have:=BM.aX;have Pp:=aY fS;have hwn:=λk e=>nK hown (g:=k) e
         generalize (M.take j).map dw=RJ at *;have kA:=K.new w6 (aq #[F Ab (Q (dw r)) cb] 118);have Bd:N<=Z (D (aU w6 (aq #[F Ab (Q (dw r)) cb] 118))):=by rw[hb2.aX];exact cI kr.size kA.size
         have HWN:=aY hwn;clear oQ C1 HO5 fS hwn;go_wp2_with (at_builtin;refine j9 rfl _ _ 125 rfl N 118 _ 1 24 UG _ _ _ rfl (sK hown _) (Z (D w6)+1) _ 1 1 [F Ab (Q (dw r)) cb] rfl ?c1 ?c2 ?c3 Bd ?_)
         case c1=>exact Reads.new w6 [F Ab (Q (dw r)) cb] 118 1 1 rfl
         case c2=>intro u hu;simp at hu;subst hu;rfl
         case c3=>omega
         intro v9 O jc dF fO cN;have k9:K w2 O:=(kr.tr kA).trans (cN.mono (by rw[hb2.aX];exact bL _));have DV:Hid (cE N N 118 mJ ((M.take (j+1)).map dw) v9 O):=aY (by
          rw[HT.aX];exact cE.snoc (S:=mJ) (lo:=N) hcl (λw' u=>oR w' (bV.tr (bV.bS kA _ _) u)) jc dF vE (λw' u=>by
           have ho:=Pp.aX;have u':=(bV.bS kA N _).tr u;exact⟨_,rfl,gD (Hr ho λk h1 h2 h3=>u'.block k (cI UQ.aX h1) h2 (λe=>by
            obtain⟨c1,b1⟩:=HWN.aX k e.symm;obtain⟨c2,N⟩:=nK ho h3;exact absurd (b1.js N) bC))⟩))
         exact SC
        ·have cd:¬(j:Int)<Q M:=aZ;rw[iw aZ]at t;have hzF:gp<=N:=by rw[<- jJ,hb2.aX];exact cI k1.size k2.size
         have Cd:=aY (cE.low (cE.floor t.aX hzF) hzF);have zT:=aY jJ;clear hzF;have kF:=k1.tr (k2.tr kr);clear t hlt hj HR;go_wp2;go_ret2;first|exact⟨_,rfl,Cd.aX,kF⟩|exact⟨_,rfl,by rw[zT.aX];exact Cd.aX,kF⟩
def kT(d:rC):List UInt8:=frames (d.gQ.map dw)
abbrev Lz(gd:Nat)(vh:aQ)(d:rC)(w:aP):Prop:=ja gd vh (kT d) (Q (kT d)) d.room w
abbrev UR(gl gd:Nat)(vh vr:aQ)(d:rC)(w:aP):Prop:=mj gl gd vh vr (kT d) (Q (kT d)) d.room w
structure aa8(gd:Nat)(vh:aQ)(d:rC)(s:fe)(w:aP)(e:Ending)(w':aP)(gl:Nat)(fy vr vl vp va:aQ):Prop where
 ret:e=ak (au #[aj (I ⟨gl,0,U⟩),av (dY s vl vp va),G J 0])
 lg:UR gl gd fy vr d w'
 st:nF (λk=>k<Z (D w)∨mm gl gd fy vr k) s vl vp va w'
 up:bf (mZ gd vh) w w'
 new:∀k,mm gl gd fy vr k->mZ gd vh k∨Z (D w)<=k
 gl:Z (D w)<=gl
def aa9(gd:Nat)(vh:aQ)(d:rC)(w:aP)(e:Ending)(w':aP):Prop :=
 ∃j,e=ak (au #[aj U,av ot,G J 90])/\Lz gd j d w'/\mi gd vh j w w'
def FW(gd:Nat)(vh:aQ)(d:rC)(s:fe)(w:aP)(e:Ending)(w':aP):Prop :=
 if jQ (eY (eJ s))<=d.room then ∃gl j vr vl vp va,aa8 gd vh ⟨eY (eJ s),d.room⟩ (eJ s) w e w' gl j vr vl vp va else aa9 gd vh d w e w'
section
variable {gl gd jj room:Nat} {vh vr:aQ} {l:List UInt8} {w w':aP} {X:Nat->Prop}
theorem ja.cA(h:ja gd vh l jj room w)(u:bf X w w')(j:∀k,mZ gd vh k->¬X k):ja gd vh l jj room w' :=
 ⟨h.blk.cA u (j _ (aI rfl)),ke h.own u λb hb=>j b (aJ hb),h.len,h.room⟩
theorem mj.cA(h:mj gl gd vh vr l jj room w)(u:bf X w w')(j:∀k,mm gl gd vh vr k->¬X k):mj gl gd vh vr l jj room w':=by obtain⟨n,xs,hn,t⟩:=h.row;exact⟨h.dk.cA u λk hk=>j k (aJ (aJ hk)),h.blk.cA u (j _ (aI rfl)),n,xs,hn,ke t u λb hb=>j b (aJ (aI hb))⟩
end
theorem asE gd vh d s w(h:Lz gd vh d w)(hG:jl d s)(hA:II (d.gQ.map dw))(hl:s.life+1<18446744073709551616) :
 aK prog 127 #[aj (I ⟨gd,0,U⟩)] w (FW gd vh d s w):=by
 obtain⟨j,uO⟩:∃j,j=d.gQ.map dw:=⟨_,rfl⟩
 obtain⟨y,GF⟩:∃y,y=(eY (eJ s)).map dw:=⟨_,rfl⟩
 obtain⟨t,fF⟩:∃n,n=s.life+1:=⟨_,rfl⟩
 have p9:eJ s=⟨t,s.list,s.prom,s.ab⟩:=by unfold eJ;rw[Nat.mod_eq_of_lt hl,fF]
 have hlen:=hG.len
 rw[<- uO]at hA
 have HA:=aY hA
 clear hA
 have hD:kT d=frames j:=by rw[uO];rfl
 have hok:∀b∈j,jw b=true:=by rw[uO];exact ajP
 have dt:∀b∈j,Q b<=1000000000:=λb hb=>by have:=hok b hb;simp[jw]at this;omega
 have IE:y.all jw=true:=by rw[GF,xW];intro b hb;obtain⟨r,hr,rfl⟩:=List.mem_map.1 hb;exact XM (hG.small r hr)
 have anZ:∀b∈y,Q b<=1000000000:=λb hb=>by have:=List.all_eq_true.1 IE b hb;simp[jw]at this;omega
 have KQ:Q j<=150000:=by rw[uO,List.length_map];exact hG.cnt
 have aJe:Q y<=200000:=by have htot:=hG.tot;rw[GF,List.length_map];have:=ahp (eJ s).life;unfold eY;simp only[eU,M7,RG,XK];show _+Q s.list+Q s.prom+Q s.ab<=_;omega
 have hall:vN j=(s,0):=by have:=ahq d.gQ (λr hr=>⟨(hG.gQ r hr).1,(hG.gQ r hr).2.1⟩) eP s hG.run;rw[uO];unfold vN;rw[this];rfl
 have hro:=YJ hG.inv.eJ bG
 have dM:Q (frames y)=jQ (eY (eJ s)):=by rw[GF,Q5]
 have yH:Hid (∀e w' gl fy vr vl vp va,jQ (eY (eJ s))<=d.room->aa8 gd vh ⟨eY (eJ s),d.room⟩ (eJ s) w e w' gl fy vr vl vp va->FW gd vh d s w e w'):=aY λe w' gl fy vr vl vp va c h=>by unfold FW;rw[bT c];exact⟨gl,fy,vr,vl,vp,va,h⟩
 have yI:Hid (∀e w',¬jQ (eY (eJ s))<=d.room->aa9 gd vh d w e w'->FW gd vh d s w e w'):=aY λe w' c h=>by unfold FW;rw[bO c];exact h
 have HN:Hid (kT ⟨eY (eJ s),d.room⟩=frames y):=aY (by rw[GF];rfl)
 have HD:=aY hD
 have HRO:Hid (∀r∈eY ⟨t,s.list,s.prom,s.ab⟩,fK r=aA/\lH r):=aY (by rw[<- p9];exact hro)
 have US:Hid ((eY ⟨t,s.list,s.prom,s.ab⟩).map dw=y):=aY bG
 have UT:=aY p9
 have UU:=aY dM
 generalize jQ (eY (eJ s))=DL at *
 generalize FW gd vh d s w=Post at *
 have HBL:=aY dt
 have HOT:=aY IE
 have HBT:=aY anZ
 have TY:=aY hall
 have fH:=bn.new w 61 ot
 have k0:=fH.cC
 have OZ:=h.st k0
 have hlo:=h.lt
 rw[hD]at OZ
 have C1:=aY (ae7 gd vh j d.room _ OZ hok)
 have hW:E.wrap ((s.life:Int)+1)=(t:Int):=by rw[IntWalk.u64_in ((s.life:Int)+1) aZ];omega
 clear fF hl
 clear h hG uO GF p9 hD hok dt IE anZ hall hro dM OZ
 go_in
 go_wp2_with fail
 generalize w.alloc _=w1 at *
 generalize jJ:Z (D w)=gp at fH⊢
 have zT:=aY jJ
 refine C1.aX.mono ?_
 rintro e w2⟨gl,vr,rfl,iR,dt,hO,jg,jL⟩
 have hz0:=k0.size
 have Pq:=aY jL.size
 have Pr:=aY fH.lt
 have HZ1:=aY hz0
 have cZ:=fH.cA jL λh=>by have:=hlo gp h;omega
 have C2:=aY (aes gl _ vr j w2 dt hO.bw aZ HBL.aX)
 have Lx:=aY ((bf.bS k0 _).tr jL)
 have zP:=aY hO
 have yF:=aY dt
 have Po:=aY jg
 clear jL hO dt jg C1 fH jJ
 go_wp2_with fail
 refine C2.aX.mono ?_
 rintro e w3⟨v3,rfl,dH,k3⟩
 have C3:=aY (HA.aX v3 w3 dH.bw)
 obtain⟨A3,c3,rfl⟩:=dH.slice
 clear C2 dH
 go_wp2_with fail
 refine C3.aX.mono ?_
 rintro e Y⟨vl,vp,va,rfl,tS,k4⟩
 rw[TY.aX]at tS⊢
 have UM:=aY tS
 have DW:=k3.tr k4
 have k24:=aY DW
 have gF:=cZ.bF DW
 have zU:=aY (yF.aX.bF DW)
 have HD4:=aY (Po.aX.st DW)
 have Je:=aY (zP.aX.st DW)
 have lq:=gF.lt
 have GG:Hid (Z (D w3)<=Z (D Y)/\Z (D w2)<=Z (D w3)):=aY ⟨k4.size,k3.size⟩
 have lh:=bn.new Y 61 ot
 have T:=lh.cell
 have z7:=lh.frozen
 obtain⟨⟨O,cl,rfl⟩,⟨B,C,rfl⟩,R,L,rfl⟩:=tS.sl
 clear C3 tS k3 k4 DW
 go_upto_region 5 with fail
 clear T z7 lh
 have KW:=bn.new Y 61 (dY s (F O (Q s.list) cl) (F B (Q s.prom) C) (F R (Q s.ab) L))
 have k5:=KW.cC
 generalize Y.alloc _=w5 at *
 generalize yw:Z (D Y)=g7 at KW lq⊢
 have T:=KW.cell
 have z7:=KW.frozen
 have aba:bn (aV w5 ⟨g7,0,U⟩ (G E t)) g7 61 (dY ⟨t,s.list,s.prom,s.ab⟩ (F O (Q s.list) cl) (F B (Q s.prom) C) (F R (Q s.ab) L)):=KW.cz 0 (G E t)
 have k6:K Y (aV w5 ⟨g7,0,U⟩ (G E t)):=K.set k5 (r:=g7) aZ 0 _
 go_upto_region 8 with fail
 clear T z7 KW hW k5
 generalize ax w5 _ _=w6 at *
 have T:=aba.cell
 have BL:=k6.size
 have HX:Hid (∀k,mm gl gd vh vr k->k<Z (D w3)):=aY λk hk=>by
  have h2:=GG.aX.2;rcases hk with rfl|hk|hk
  ·have:=yF.aX.lt;omega
  ·have:=(zP.aX.blk k hk).2;omega
  ·have:=Po.aX.lt k hk;omega
 have UW:=aY (UM.aX.k k6)
 have C4:=aY (aum ⟨t,s.list,s.prom,s.ab⟩ (av (dY ⟨t,s.list,s.prom,s.ab⟩ (F O (Q s.list) cl) (F B (Q s.prom) C) (F R (Q s.ab) L))) w6 ⟨_,_,_,rfl,UW.aX.now.1,UW.aX.now.2.1,UW.aX.now.2.2⟩ bG HRO.aX)
 rw[US.aX]at C4
 have LA:=aY hlo
 have HG7:=aY yw
 clear hlo yw hlen
 go_wp2_with fail
 refine C4.aX.mono ?_
 rintro e w7⟨v7,rfl,jh,k7⟩
 have hX7:∀k,mm gl gd vh vr k->k<Z (D w6):=λk hk=>by have:=HX.aX k hk;have:=GG.aX;omega
 have GH:=k6.tr k7
 have Pa:mj gl gd vh vr (frames j) (Q (frames j)) d.room w7:=by obtain⟨css,hr,hcl,hE⟩:=Je.aX.st GH;exact⟨HD4.aX.st GH,zU.aX.bF GH,_,_,Rg j,oy (eO _) hr⟩
 have UY:=(jh.tR.fx λk hk=>hk).less hX7
 have C5:=aY (asb gl gd vh vr v7 (frames j) d.room y w7 Pa UY aZ HBT.aX)
 have LC:Hid (zM (frames j) y d.room=if DL<=d.room then (frames y,0)else (frames j,90)):=aY (by unfold zM zJ;rw[bT HOT.aX,UU.aX])
 have HX7:=aY hX7
 have HF7:=aY (UW.aX.k k7)
 have abb:=aba.bF k7
 have S:=gF.bF GH
 have HK7:=aY GH
 obtain⟨A7,c7,rfl⟩:=jh.tR.slice
 clear T aba jh Pa UY C4 k7 hX7 k6 BL
 go_wp2_with fail
 refine C5.aX.mono ?_
 rintro e w8⟨H,LD,rfl,Ps,Pt,A⟩
 clear C5
 have HU:=aY (by
  refine (Lx.aX.tr (bf.bS (k24.aX.tr HK7.aX) _)).iA A.up λk hk hx=>?_
  rcases hx with rfl|hx|hx
  ·omega
  ·have:=(zP.aX.blk k hx).1;have:=HZ1.aX;omega
  ·exact hx)
 by_cases hfit:DL<=d.room
 ·have gZ:Hid (zM (frames j) y d.room=(frames y,0)):=aY (by rw[LC.aX,bT hfit]);rw[gZ.aX]at Ps Pt⊢;have Bw:=aY hfit;have HL8:=aY (Ps rfl);have sB:=abb.cA A.up λhx=>by have:=HX7.aX _ hx;have:=HX.aX _ hx;have:=HG7.aX;have:=GG.aX;omega
  have vY:=S.cA A.up λhx=>by exact SD
  have HF8:Hid (nF (λk=>k<Z (D w1)∨mm gl gd H LD k) ⟨t,s.list,s.prom,s.ab⟩ (F O (Q s.list) cl) (F B (Q s.prom) C) (F R (Q s.ab) L) w8):=aY (HF7.aX.to (M:=λk=>k<Z (D w3)) (N:=λk=>k<Z (D w1)∨mm gl gd H LD k) A.up (λk hk=>HX.aX k hk) λk hk hx=>by
   rcases hx with hx|hx
   ·have:=GG.aX;have:=Pq.aX;omega
   ·exact HX.aX k ((A.new k hx).resolve_right aZ))
  have T:=sB.cells;have Pu:Hid (∀k,mm gl gd H LD k->¬k=gp):=aY λk hk e=>by
   rcases A.new k hk with hx|hx
   ·rw[e]at hx;exact SD
   ·have:=S.lt;omega
  have GI:Hid (∀k,mm gl gd H LD k->mZ gd vh k∨Z (D w)<=k):=aY λk hk=>by
   rcases A.new k hk with hx|hx
   ·exact ajQ
   ·have:=S.lt;have:=zT.aX;right;omega
  have UZ:Hid (Z (D w)<=gl):=aY aZ;clear sB A Ps Pt abb S hfit gZ LC;go_upto_region 14 with fail;have qs:=T;refine eQ 3 ?_;iterate 3 refine bA.i ?_
  clear qs;intro V W kW hA;simp only[bU,bZ,dx,bM,Nat.reduceAdd]at hA;have eV:=vY.bF kW;have q9:=eV.cell;have z9:=eV.frozen;refine bJ.skip (ax (ax (ax (ax W ⟨gp,0,U⟩ (G E t)) ⟨gp,1,U⟩ (F O (Q s.list) cl)) ⟨gp,2,U⟩ (F B (Q s.prom) C)) ⟨gp,3,U⟩ (F R (Q s.ab) L)) rfl (by simp[bP,aC,hA,cK,aL,bR,q9,z9,go_sem]) ?_;apply bJ.pure;rfl;simp[bP,aC,cK,hA,aL,bR,go_sem];rfl;refine bJ.h ?_;clear q9 z9 T;have tO:bn (ax (ax (ax (ax W _ _) _ _) _ _) _ _) gp 61 (dY ⟨t,s.list,s.prom,s.ab⟩ (F O (Q s.list) cl) (F B (Q s.prom) C) (F R (Q s.ab) L)):=(((eV.cz 0 (G E t)).cz 1 (F O (Q s.list) cl)).cz 2 (F B (Q s.prom) C)).cz 3 (F R (Q s.ab) L);have u9:bf (λk=>k=gp) W _:=(((bf.dc (X:=λk=>k=gp) rfl 0 (G E t)).tr (bf.dc (X:=λk=>k=gp) rfl 1 (F O (Q s.list) cl))).tr (bf.dc (X:=λk=>k=gp) rfl 2 (F B (Q s.prom) C))).tr (bf.dc (X:=λk=>k=gp) rfl 3 (F R (Q s.ab) L));generalize ax (ax (ax (ax W _ _) _ _) _ _) _ _=W9 at *;have e9:=tO.cell;have HPP:=yH.aX;clear eV yH yI;have Jf:=aY (((bf.bS kW _).tr u9:bf (λk=>k=gp) w8 W9));clear u9 hA;go_wp2;try rw[jt]
  refine aM (v:=au #[aj (I ⟨gl,0,U⟩),av (dY ⟨t,s.list,s.prom,s.ab⟩ (F O (Q s.list) cl) (F B (Q s.prom) C) (F R (Q s.ab) L)),G J 0]) ajR rfl ?_;refine HPP _ _ gl H LD (F O (Q s.list) cl) (F B (Q s.prom) C) (F R (Q s.ab) L) Bw.aX ⟨by rw[UT.aX],?_,?_,?_,GI.aX,UZ.aX⟩
  ·show mj gl gd H LD (kT _) (Q (kT _)) d.room W9;rw[HN.aX];exact HL8.aX.cA Jf.aX Pu.aX
  ·rw[UT.aX];exact (HF8.aX.up Jf.aX λk hk=>aI (by have:=Pr.aX;omega)).less λk hk=>hk.imp (λh=>aZ) id
  ·exact HU.aX.iA Jf.aX λk hk hx=>by have:=zT.aX;omega
 ·have gZ:Hid (zM (frames j) y d.room=(frames j,90)):=aY (by rw[LC.aX,bO hfit]);rw[gZ.aX]at Ps Pt⊢;have Bw:=aY hfit;have vY:=S.cA A.up λhx=>by exact SD
  have Pu:Hid (∀k,mZ gd H k->¬k=gp):=aY λk hk e=>by
   rcases A.new k (aJ (aJ hk))with hx|hx
   ·rw[e]at hx;exact SD
   ·have:=S.lt;omega
  have GI:Hid (∀k,mZ gd H k->mZ gd vh k∨Z (D w)<=k):=aY λk hk=>by
   rcases A.new k (aJ (aJ hk))with hx|hx
   ·exact ajQ
   ·have:=S.lt;have:=zT.aX;right;omega
  have HD8:=aY Pt;clear A Ps Pt abb S hfit gZ LC;have z:=vY.frozen;have qz:=vY.cell;go_wp2;have tO:bn (ax (ax (ax (ax w8 _ _) _ _) _ _) _ _) gp 61 ot:=(((vY.cz 0 (G E 0)).cz 1 (F U 0 0)).cz 2 (F U 0 0)).cz 3 (F U 0 0);have u9:bf (λk=>k=gp) w8 _:=(((bf.dc (X:=λk=>k=gp) rfl 0 (G E 0)).tr (bf.dc (X:=λk=>k=gp) rfl 1 (F U 0 0))).tr (bf.dc (X:=λk=>k=gp) rfl 2 (F U 0 0))).tr (bf.dc (X:=λk=>k=gp) rfl 3 (F U 0 0));clear z qz vY;generalize ax (ax (ax (ax w8 _ _) _ _) _ _) _ _=W9 at *;have e9:=tO.cell;try rw[jt]
  refine aM (v:=au #[aj U,av ot,G J 90]) ajR rfl ?_;refine yI.aX _ _ Bw.aX ⟨H,rfl,?_,HU.aX.iA u9 λk hk hx=>by have:=zT.aX;omega,GI.aX⟩;show ja gd H (kT d) (Q (kT d)) d.room W9;rw[HD.aX];exact HD8.aX.cA u9 Pu.aX
structure pH where
 g:Nat
 gl:Nat
 gd:Nat
 gr:Nat
 gt:Nat
 vd:aQ
 vr:aQ
 vp:aQ
 vh:aQ
 vl:aQ
 vq:aQ
 va:aQ
 vt:aQ
 vf:aQ
 vw:aQ
 kr:List (Int×aQ)
abbrev Jg(p:pH)(B:cJ):Array aQ:=#[G J B.me,p.vp,p.vh,aj (I ⟨p.gl,0,U⟩),G E (B.st.life:Int),p.vl,p.vq,p.va,p.vt,G E (B.calls:Int),.map (I p.gr),p.vf,.map (I p.gt),p.vw]
def cO(p:pH)(k:Nat):Prop:=k=p.g∨k=p.gr∨k=p.gt∨mm p.gl p.gd p.vd p.vr k
def EV(l:List (Int×gM))(bu:List (Int×aQ))(W:aP):Prop:=Q bu=Q l/\∀i (h:i<Q bu) (h':i<Q l),bu[i].1=l[i].1/\nG l[i].2 bu[i].2 W
def rT(l:List cB):List (cB×aQ):=l.zipIdx.map λp=>(p.1,G J (p.2:Int))
structure BrD(p:pH)(B:cJ)(W:aP):Prop where
 par:bw eu B.par p.vp W
 bj:bw eu B.bj p.vh W
 list:bw cF B.st.list p.vl W
 prom:bw cF B.st.prom p.vq W
 ab:bw dJ B.st.ab p.va W
 bH:bw eC B.bH p.vt W
 ie:bw dJ B.refused p.vf W
 waits:bw cF B.waits p.vw W
 dq:EV B.dq p.kr W
structure cS(M:Nat->Prop)(p:pH)(B:cJ)(w:aP):Prop where
 blk:bn w p.g 162 (Jg p B)
 lg:UR p.gl p.gd p.vd p.vr B.dk w
 rep:fC encI w p.gr p.kr
 yJ:fC nS w p.gt (rT B.told)
 df:Fx M (BrD p B) w
 sub:∀k,cO p k->M k
 low:∀k,M k->k<Z (D w)
 ne:p.gr≠p.gt
section
variable {M M' X:Nat->Prop} {p p':pH} {B B':cJ} {w w' w'':aP}
theorem cS.st(h:cS M p B w)(k:K w w'):cS M p B w' :=
 ⟨h.blk.bF k,h.lg.st k,h.rep.st k,h.yJ.st k,h.df.k k,h.sub,λb hb=>cQ (h.low b hb) k.size,h.ne⟩
theorem fC.an1{gl gd vd vr d α}[DecidableEq α]{enc b}{bu:List (α×aQ)}(h:fC enc w b bu)(l:UR gl gd vd vr d w):¬mm gl gd vd vr b:=λhk=>by
 obtain⟨n,xs,hn,j⟩:=l.row;rcases hk with rfl|hk|rfl|hk
 ·exact h.cells l.blk
 ·obtain⟨cur,hb⟩:=nK j hk;exact h.cells hb
 ·exact h.cells l.dk.blk
 ·obtain⟨cur,hb⟩:=nK l.dk.own hk;exact h.cells hb
theorem cS.apart(h:cS M p B w):p.g≠p.gr/\p.g≠p.gt/\¬mm p.gl p.gd p.vd p.vr p.g/\¬mm p.gl p.gd p.vd p.vr p.gr/\¬mm p.gl p.gd p.vd p.vr p.gt:=by
 refine⟨λe=>h.rep.cells (e▸h.blk),λe=>h.yJ.cells (e▸h.blk),λhk=>?_,h.rep.an1 h.lg,h.yJ.an1 h.lg⟩;obtain⟨n,xs,hn,j⟩:=h.lg.row;rcases hk with e|hk|e|hk
 ·exact absurd (h.blk.js (e▸h.lg.blk)) bC
 ·obtain⟨cur,hb⟩:=nK j hk;exact absurd (h.blk.js hb) bC
 ·exact absurd (h.blk.js (e▸h.lg.dk.blk)) bC
 ·obtain⟨cur,hb⟩:=nK h.lg.dk.own hk;exact absurd (h.blk.js hb) bC
theorem cS.far(h:cS M p B w)(u:bf X w w')(A:∀k,X k->M k)(hn:∀k,X k->¬cO p k)(z:∀k,k<Z (D w)->M' k->M k)(y:∀k,cO p k->M' k)(t:∀k,M' k->k<Z (D w')):cS M' p B w' :=
 ⟨h.blk.cA u λj=>hn _ j (aI rfl),h.lg.cA u λk hk j=>hn k j (aJ (aJ (aJ hk))),h.rep.cA u λj=>hn _ j (aJ (aI rfl)),h.yJ.cA u λj=>hn _ j (aJ (aJ (aI rfl))),h.df.to u A z,y,t,h.ne⟩
theorem cS.cell(h:cS M p B w) i v(hb:bn (aV w ⟨p.g,i,U⟩ v) p.g 162 (Jg p' B'))
 (hp:p'.g=p.g/\p'.gl=p.gl/\p'.gd=p.gd/\p'.gr=p.gr/\p'.gt=p.gt/\p'.vd=p.vd/\p'.vr=p.vr/\p'.kr=p.kr) (T:B'.dk=B.dk/\B'.told=B.told)
 (N:∀W,bf M w W->BrD p B W->BrD p' B' W):cS M p' B' (aV w ⟨p.g,i,U⟩ v):=by
 obtain⟨e1,R,V,t,y,Y,A,L⟩:=hp
 obtain⟨f1,S⟩:=T
 obtain⟨C,H,O,a4,a5⟩:=h.apart
 have u:bf (λk=>k=p.g) w (aV w ⟨p.g,i,U⟩ v):=bf.dc (X:=λk=>k=p.g) rfl i v
 have j:=u.more λk hk=>h.sub k (aI hk)
 refine⟨bG,?_,?_,?_,λW z=>N W (j.tr z) (h.df W (j.tr z)),λk hk=>h.sub k ?_,λk hk=>by simpa using h.low k hk,by rw[t,y];exact h.ne⟩
 ·rw[R,V,Y,A,f1];exact h.lg.cA u λk hk e=>O (e▸hk)
 ·rw[t,L];exact h.rep.cA u λe=>C e.symm
 ·rw[y,S];exact h.yJ.cA u λe=>H e.symm
 ·grind [cO]
def pH.key(p:pH):Nat×Nat:=(p.g,p.gd)
theorem kg{p:pH}{a b}(h:p.key=(a,b)):p.g=a:=congrArg Prod.fst h
theorem DY{p p':pH}(h:p'.key=p.key):p'.g=p.g:=congrArg Prod.fst h
def eX(M:Nat->Prop)(p:pH)(B':cJ)(w w':aP):Prop :=
 ∃p',cS (λk=>M k∨cO p' k) p' B' w'/\bf (cO p) w w'/\p'.key=p.key/\∀k,cO p' k->cO p k∨Z (D w)<=k
theorem cS.less(h:cS M p B w)(t:∀k,cO p k->M' k)(j:∀k,M' k->M k):cS M' p B w:=⟨h.blk,h.lg,h.rep,h.yJ,h.df.less j,t,λk hk=>h.low k (j k hk),h.ne⟩
theorem cS.now(h:cS M p B w)(hg:p'.key=p.key)(j:∀k,cO p k->cO p' k∨Z (D w')<=k)(u:bf (cO p') w' w):eX M p' B w' w :=
 ⟨p,h.less (λk hk=>aJ hk) (λk hk=>hk.elim id (h.sub k)),u,hg.symm,j⟩
theorem cS.n(h:cS M p B w)(k:K w w'):eX M p B w w' :=
 (h.st k).now rfl (λ_ h=>aI h) (bf.bS k _)
theorem eX.tr{j p1}(u:bf (cO p) w w')(hg:p1.key=p.key)(t:∀k,cO p1 k->cO p k∨Z (D w)<=k)(A:∀k,M k->j k)(h:eX j p1 B' w' w''):eX M p B' w w'':=by
 obtain⟨p2,z,y,B,C⟩:=h;refine⟨p2,z.less (λk hk=>aJ hk) (λk hk=>hk.imp (A k) id),u.iA y λk hk H=>(t k H).resolve_right aZ,B.trans hg,λk hk=>?_⟩;rcases C k hk with a|a
 ·grind
 ·exact aJ (cI u.size a)
theorem eX.k(h:eX M p B' w w')(k:K w' w''):eX M p B' w w'':=by obtain⟨p2,z,t,y,j⟩:=h;exact⟨p2,z.st k,t.tr (bf.bS k _),y,j⟩
theorem eX.zW{w0}(h:eX M p B' w w')(k:K w0 w)(C:∀j,cO p j->j<Z (D w0)):eX M p B' w0 w':=by obtain⟨p2,z,y,A,B⟩:=h;exact⟨p2,z,(bf.bS k _).tr y,A,λj t=>(B j t).imp id λa=>cI k.size a⟩
end
theorem azI W:EV [] [] W:=⟨rfl,λi h=>yY⟩
theorem cS.q{M p B w}(h:cS M p B w):∀W,K w W->∀i,W.cell? ⟨p.g,i,U⟩=(Jg p B)[i]?:=h.blk.cells
section
variable {P:Program} {a0:Act}
theorem axz{t} ρ ty W:∃v W',(aL ρ (bR (.makeMap t U) ty)).run P W=.ok (.value v) W'/\∀b,DF v=I b->Z (D W)<=b/\b<Z (D W') :=
 ⟨.map (I (Z (D W))),W.alloc (.map #[] 0),by simp[aL,bR,Instr.makeMap,go_sem],λb hb=>by cases hb;simp⟩
theorem XN l{s u j e z bytes}(T:ir P j e z 1 bytes){w ρ ty}(O:Q l*(bytes+1)<=140737488355328)(L:ρ s=F U 0 0)(y:bw eu l (ρ u) w) :
 ∃v w',(aL ρ (bR (.call { callee:=.builtin .append,args:=#[s,u],argTypes:=#[j,j] }) ty)).run P w=.ok (.value v) w'/\(∀b,DF v=I b->Z (D w)<=b/\b<Z (D w'))/\bK (λk=>k<Z (D w)) (Z (D w)) e eu l v w'/\K w w':=by
 obtain⟨A,c,y,⟨css,B,C⟩,-⟩:=y
 have:=QU B
 obtain⟨v',w',M,t,S,N,h6⟩:=Hx (P:=P) w (Z (D w)) j ty e z 1 bytes T (F U 0 0) 0 [] (mr _ _ _ _) _ A (Q l) c css.flatten C B.ones bG (bL _)
 simp only[ng,bU]at t
 refine⟨v',w',?_,λb hb=>?_,⟨css,t,bG,λW u=>ic⟩,h6⟩
 ·simp only[aL,bR,resolve,invoke,builtin,Sem.run_bind,Sem.run_pure,Result.andThen_ok,List.map_toArray,lT,List.map_nil,L,y,M]
 ·have H:aW v'=I b:=by cases v' <;> first|exact hb|(rcases t.2 with ⟨h,-⟩|⟨_,_,_,h,-⟩ <;> cases h)
  exact t.lt b H
theorem bA.ints{R:aP->Prop}{B:aP->aP->Prop}{C:List Nat}{H:List Oper->List (List Nat×List (Nat×Nat))->List (aQ->aP->Prop)->Prop}{m:Nat}{o:Oper}{r:List Oper}{x:List Nat×List (Nat×Nat)}{xs:List (List Nat×List (Nat×Nat))}{t:List (aQ->aP->Prop)}(y:Nat)(l:List Int){s u:Operand}{A e:TypeId}{z:aQ}{bytes:Nat}(T:ir P A e z 1 bytes)
 (hbytes:Q l*(bytes+1)<=140737488355328) (X:∀W,R W->y<=Z (D W))
 (h:∀(V:Nat->aQ) (w:aP),R w->(∀j∈x.1,tab t j (V j) w)->bP x.2 a0 V s=F U 0 0/\bw eu l (bP x.2 a0 V u) w)
 (k:bA P a0 R B C H m r xs (t++[λv W=>bK (λk=>k<y) y e eu l v W])) (N:o.op=.call { callee:=.builtin .append,args:=#[s,u],argTypes:=#[A,A] }:=by rfl) (hg:o.guard=none:=by rfl) (hSt:∀v w w',bK (λk=>k<y) y e eu l v w->B w w'->bK (λk=>k<y) y e eu l v w':=by exact λ_ _ _ h k=>h.st k) (M:C.contains (Q t)=false:=by (simp only[eU,fY,List.length_nil,List.contains_nil];try rfl)):bA P a0 R B C H (m+1) (o :: r) (x :: xs) t:=by
 refine bA.op _ hSt (λV w L hp=>?_) k M
 obtain⟨Y,S⟩:=h V w L hp
 obtain⟨v,w',hrun,-,⟨css,h3,h4,O⟩,h6⟩:=XN l T (ty:=o.type) hbytes Y S
 rw[hg,bT (show dC V U=aA from rfl),N,hrun]
 exact⟨⟨css,oy (X w L) h3,h4,λW u=>by rw[QU (O w' (bf.rf _ _))];exact Hj _ _⟩,h6⟩
end
theorem afJ p n v g w(j:∃A c,v=F A (Q p) c)(hg:bn w g 23 #[v])(hn:Q p<=1000000) :
 aK prog 126 #[G J n,aj (I ⟨g,0,U⟩)] w λe w'=>e=ak (ar (iJ p n))/\K w w':=by
 obtain⟨A,c,rfl⟩:=j
 have q:=hg.cell
 have kk:=K.rf w
 have HC:Hid (iJ p n=(decide (0<=n)&&decide (n<(Q p:Int)))):=aY rfl
 generalize iJ p n=R at *
 go_in
 by_cases h0:0<=n
 ·by_cases h1:n<(Q p:Int)
  ·have HR:Hid (R=aA):=aY YR;exact CJ
  ·have HR:Hid (R=az):=aY YR;exact CJ
 ·exact ajm
def wZ(me:Int)(p bj:List Int)(d:rC)(s:fe):cJ:=⟨me,p,bj,s,[],0,[],[],[],[],d⟩
theorem azJ p bj me t v2 z w(h1:bw eu p t w)(h2:bw eu bj v2 w)(M:Q p<=1000000)(nE:Q bj<=1000000)(hdv:z=aj U∨∃gd,z=aj (I ⟨gd,0,U⟩))
 (y:iQ p=az∨iJ p me=az∨z=aj U∨nV p bj=az) :
 aK prog 85 #[G J me,t,v2,z] w λe w'=>e=ak (au #[aj U,G J (if iQ p then 1 else 120)])/\K w w':=by
 have HE:Hid ((if iQ p then (1:Int)else 120)=if iQ p then (1:Int)else 120):=aY rfl
 have S:Hid (y7 p=if iQ p then 0 else 120):=aY rfl
 have C1:=aY λW (k:K w W)=>MC p t W (cH h1 k) M
 have hb:=bn.new w 23 #[t]
 have k1:=hb.cC
 have N:=bD h1
 have Y:=aY λn g W hg=>afJ p n t g W N hg M
 obtain⟨A1,c1,rfl⟩:=N
 obtain⟨A2,c2,rfl,gj,-⟩:=h2
 have L:=aY gj
 generalize hR:(if iQ p then (1:Int)else 120)=R at HE⊢
 have HR:=aY hR
 generalize y7 p=T at *
 go_in
 go_upto_region 1 with fail
 generalize w.alloc _=w1 at *
 generalize Z (D w)=g at hb⊢
 have q:=hb.cell
 go_wp2_with fail
 apply bN (C1.aX w1 k1)
 intro w2 V
 replace hb:=hb.bF V
 replace k1:=k1.tr V
 cases ht:iQ p
 ·have HQ:Hid (R=120):=aY ajS;obtain rfl:T=120:=by rw[S.aX,ht];rfl
  exact NF
 have HQ:Hid (R=1):=aY ajS
 obtain rfl:T=0:=by rw[S.aX,ht];rfl
 rw[ht]at y
 replace y:=y.resolve_left bC
 have B:=aY y
 have A:=aY hdv
 go_wp2_with fail
 apply bN (Y.aX _ g w2 hb)
 intro X k3
 replace hb:=hb.bF k3
 replace k1:=k1.tr k3
 cases hm:iJ p me
 ·clear B A L;exact NF
 rcases A.aX with rfl|⟨gd,rfl⟩
 ·clear B A L;exact NF
 have HH:=aY (by
  have:=B.aX;rw[hm]at this;exact (this.resolve_left bC).resolve_left bq)
 by_cases h3:Q bj<1
 ·have h3':(Q bj:Int)<1:=aZ;exact NF
 have h3':¬(Q bj:Int)<1:=aZ
 by_cases h4:32<Q bj
 ·have h4':32<(Q bj:Int):=aZ;exact NF
 have h4':¬32<(Q bj:Int):=aZ
 obtain⟨b,off,rfl,hcell⟩:=ints_at L.aX aZ
 have yE:=aY hcell
 have hh:Hid (¬ ∀k (h:k<Q bj),iJ p bj[k]=aA):=aY λh=>by
  have:=HH.aX;rw[show nV p bj=aA by
   simp only[nV,fB,decide_eq_true_eq,xW];exact⟨⟨aZ,aZ⟩,λx H=>by obtain⟨k,hk,rfl⟩:=List.mem_iff_getElem.1 H;exact h k hk⟩]at this
  cases this
 go_wp2_with fail
 have kk:=K.rf X
 go_loopw [13,43,44,45,46,47,48,49,50] (fun _ i _ _ _ _ _ _ _ W=>∃j:Nat,j<=Q bj/\i=G J j/\Hid (∀k (h:k<Q bj),k<j->iJ p bj[k]=aA)/\K X W) (fun _ i _ _ _ _ _ _ _ _=>Q bj-(aO i).toNat)
 case atStart=>exact⟨0,aZ,rfl,aY λk _ h=>aZ,kk⟩
 case round =>
  obtain⟨j,hj,rfl,C,kr⟩:=hrel;by_cases hlt:j<Q bj
  ·have cd:(j:Int)<Q bj:=aZ;have cj:=yE.aX wr (k1.tr kr) j hlt;have HB:Hid (iJ p bj[j]=aA->∀k (h:k<Q bj),k<j+1->iJ p bj[k]=aA):=aY λh k hk hkj=>by
    by_cases e:k=j
    ·subst e;exact h
    ·exact C.aX k hk aZ
   generalize bj[j]=x at *;have rD:=hb.bF kr;go_wp2_with fail
   apply bN (Y.aX _ g wr rD);intro w4 O;have kf:=k1.tr (kr.tr O);cases H:iJ p x
   ·clear HB C;go_wp2;go_ret2;exact⟨pM,kf⟩
   have yF:=aY (HB.aX H);have jo:=kr.tr O;go_wp2;go_roundw
   case rel=>exact⟨j+1,aZ,cU,yF,jo⟩
   case measure=>simp[aO];omega
  ·exact absurd (λk h=>C.aX k h aZ) hh.aX
theorem mi.zW{gd vh j w0 w w'}(h:mi gd vh j w w')(k:K w0 w)(_:∀b,mZ gd vh b->b<Z (D w0)):mi gd vh j w0 w':=⟨(bf.bS k _).tr h.up,λb hb=>(h.new b hb).imp id λa=>cI k.size a⟩
structure abc(gd:Nat)(vh:aQ)(B:cJ)(w:aP)(e:Ending)(w':aP)(q:pH):Prop where
 ret:e=ak (au #[aj (I ⟨q.g,0,U⟩),G J 0])
 dd:q.gd=gd
 br:cS (λk=>k<Z (D w)∨cO q k) q B w'
 up:bf (mZ gd vh) w w'
 new:∀k,cO q k->mZ gd vh k∨Z (D w)<=k
 g:Z (D w)<=q.g
def an2(gd:Nat)(vh:aQ)(d:rC)(w:aP)(e:Ending)(w':aP):Prop:=∃j,e=ak (au #[aj U,G J 90])/\Lz gd j d w'/\mi gd vh j w w'
def FX(gd:Nat)(vh:aQ)(d:rC)(s:fe)(me:Int)(p bj:List Int)(w:aP)(e:Ending)(w':aP):Prop :=
 if jQ (eY (eJ s))<=d.room then ∃q,abc gd vh (wZ me p bj ⟨eY (eJ s),d.room⟩ (eJ s)) w e w' q else an2 gd vh d w e w'
theorem NG{M e base l v w Y}(h:bK Y base e eu l v w)(y:∀b,aW v=I b->¬M b):Fx M (λW=>bw eu l v W) w:=λW u=>by obtain⟨css,j,A,z⟩:=h;have t:=QU (z w (bf.rf _ _));exact Q9 (ke j u y) (by rw[t];exact Hj _ _)
theorem JV{P t kt j}(y:P.underlying t=some (.map kt j)) W:(Instr.makeMap t U).run P W=.ok (.map (I (Z (D W)))) (aU W (.map #[] 0)):=by simp[Instr.makeMap,run_underlying y,go_sem]
theorem ae8 gd vh d s p bj me v1 v2 w(h:Lz gd vh d w)(hG:jl d s)(hA:II (d.gQ.map dw))(hl:s.life+1<18446744073709551616)(O:Fx (mZ gd vh) (λW=>bw eu p v1 W) w)(T:Fx (mZ gd vh) (λW=>bw eu bj v2 W) w)
 (ht:iQ p=aA) (hm:iJ p me=aA) (hh:nV p bj=aA) :
 aK prog 85 #[G J me,v1,v2,aj (I ⟨gd,0,U⟩)] w (FX gd vh d s me p bj w):=by
 have fF:Q p<=1000000:=ajT
 obtain⟨⟨nE,zu⟩,hall⟩:(1<=Q bj/\Q bj<=32)/\∀x∈bj,iJ p x=true:=by simpa only[nV,fB,decide_eq_true_eq,xW]using hh
 have yH:Hid (∀e w' q,jQ (eY (eJ s))<=d.room->abc gd vh (wZ me p bj ⟨eY (eJ s),d.room⟩ (eJ s)) w e w' q->FX gd vh d s me p bj w e w'):=aY λe w' q c h=>by unfold FX;rw[bT c];exact⟨q,h⟩
 have yI:Hid (∀e w',¬jQ (eY (eJ s))<=d.room->an2 gd vh d w e w'->FX gd vh d s me p bj w e w'):=aY λe w' c h=>by unfold FX;rw[bO c];exact h
 have HB:Hid (∀W e w',FW gd vh d s W e w'->if jQ (eY (eJ s))<=d.room then ∃gl H vr vl vp va,aa8 gd vh ⟨eY (eJ s),d.room⟩ (eJ s) W e w' gl H vr vl vp va else aa9 gd vh d W e w'):=aY λW e w' h=>h
 have C3:=aY λW (k:K w W)=>asE gd vh d s W (h.st k) hG hA hl
 generalize jQ (eY (eJ s))=DL at *
 generalize hd':(⟨eY (eJ s),d.room⟩:rC)=d' at *
 generalize hs':eJ s=y at *
 generalize FX gd vh d s me p bj w=Post at *
 generalize hBP:FW gd vh d s=BP at *
 have HDX:=aY h.lt
 have H1:=aY O
 have H2:=aY T
 clear hd' hs' hBP hG hl hh h
 have HTT:y7 p=0:=by unfold y7;rw[bT ht]
 have C1:=aY λW (k:K w W)=>MC p v1 W (O.at k) fF
 rw[HTT]at C1
 have hb:=bn.new w 23 #[v1]
 have k1:=hb.cC
 have hs:=bD O.now
 have C2:=aY λn g W hg=>afJ p n v1 g W hs hg fF
 obtain⟨A1,c1,rfl⟩:=hs
 obtain⟨A2,c2,rfl,gj,-⟩:=T.now
 have Ce:=aY gj
 clear O T gj HTT ht
 go_in
 go_upto_region 1 with fail
 generalize w.alloc _=w1 at *
 generalize hg0:Z (D w)=g at hb⊢
 have U0:=aY hg0
 clear hg0
 have q:=hb.cell
 go_wp2_with fail
 apply bN (C1.aX w1 k1)
 intro w2 k2
 replace hb:=hb.bF k2
 replace k1:=k1.tr k2
 clear q k2 C1
 go_wp2_with fail
 apply bN (C2.aX _ g w2 hb)
 intro w3 k3
 replace hb:=hb.bF k3
 replace k1:=k1.tr k3
 clear k3
 rw[hm]
 have:¬(Q bj:Int)<1:=aZ
 obtain⟨b,off,rfl,hcell⟩:=ints_at Ce.aX aZ
 have yE:=aY hcell
 have TY:Hid (∀k (h:k<Q bj),iJ p bj[k]=aA):=aY λk hk=>hall _ (dG hk)
 clear hcell Ce hall hm
 go_wp2_with fail
 have kk:=K.rf w3
 go_loopw [13,43,44,45,46,47,48,49,50] (fun _ i _ _ _ _ _ _ _ W=>∃j:Nat,j<=Q bj/\i=G J j/\K w3 W) (fun _ i _ _ _ _ _ _ _ _=>Q bj-(aO i).toNat)
 case atStart=>exact⟨0,aZ,rfl,kk⟩
 case round =>
  clear kk;obtain⟨j,hj,rfl,kr⟩:=hrel;by_cases hlt:j<Q bj
  ·have cd:(j:Int)<Q bj:=aZ;have cj:=yE.aX wr (k1.tr kr) j hlt;have t:=TY.aX j hlt;generalize bj[j]=x at *;have rD:=hb.bF kr;go_wp2_with fail
   apply bN (C2.aX _ g wr rD);intro w4 k4;rw[t];have jo:=kr.tr k4;clear t cj;go_wp2;go_roundw
   case rel=>exact⟨j+1,aZ,cU,jo⟩
   case measure=>simp[aO];omega
  ·have cd:¬(j:Int)<Q bj:=aZ;have kr:=k1.tr kr;have hb:=hb.bF aZ;clear hlt hj k1 TY yE C2;go_wp2_with fail
   refine (C3.aX wr kr).mono ?_;intro e S Y;replace Y:=HB.aX _ _ _ Y;have Jh:=aY kr;have HBB:=aY hb;clear HB C3 hb kr;by_cases hfit:DL<=d.room
   ·rw[bT hfit]at Y;obtain⟨gl,H,vr,vl,vp,va,⟨rfl,hlg,C,Ji,kO,iR⟩⟩:=Y;have Bw:=aY hfit;have jI:=HBB.aX.cA Ji λt=>by have:=HDX.aX _ t;have:=U0.aX;omega
    obtain⟨⟨Al,cl,rfl⟩,⟨Ap,cp,rfl⟩,Aa,ca,rfl⟩:(∃A c,vl=F A (Q y.list) c)/\(∃A c,vp=F A (Q y.prom) c)/\∃A c,va=F A (Q y.ab) c:=⟨bD C.now.1,bD C.now.2.1,bD C.now.2.2⟩;have z:=bn.new S 61 ot;have q7:=z.cell;have z7:=z.frozen;have HLG:=aY hlg;have HST:=aY C;have Fg:=aY Ji;have Bz:=aY kO;clear hlg C Ji kO iR hfit;go_upto_region 14 with fail;clear q7 z7 z;have z:=bn.new S 61 (dY y (F Al (Q y.list) cl) (F Ap (Q y.prom) cp) (F Aa (Q y.ab) ca));have B:=z.cC;generalize S.alloc _=L at *;generalize Z (D S)=g7 at z⊢;have lQ:=jI.bF B;have q6:=lQ.cells;have q7:=z.cells;have LA:Hid (∀W,K L W->bw eu p (F A1 (Q p) c1) W):=aY λW k=>H1.aX W ((bf.bS Jh.aX _).tr (Fg.aX.tr (bf.bS (B.tr k) _)))
    have Ce:Hid (∀W,K L W->bw eu bj (F (I ⟨b,off,U⟩) (Q bj) c2) W):=aY λW k=>H2.aX W ((bf.bS Jh.aX _).tr (Fg.aX.tr (bf.bS (B.tr k) _)))
    clear jI lQ z;go_upto_region 16 with fail;have qs:=aB q6 q7;refine aen 9 [7,8] [([],[]),([],[]),([1],[(62,1)]),([],[]),([3],[(64,3)]),([],[]),([],[]),([],[]),([],[]),([0,2,4,5,6,7,8],[(61,0),(63,2),(65,4),(66,5),(67,6),(68,7),(69,8)]),([9],[(70,9)]),([0,1,2,3,4,5,6,7,8,9,10],[(71,10)]),([0,1,2,3,4,5,6,7,8,9,10,11],[])] 72 ?_;iterate 2 refine bA.i ?_
    refine bA.ints (Z (D L)) p Fc aZ (λ_ k=>k.size) (λV W kW hp=>?_) ?_
    ·exact ajU
    refine bA.i ?_;refine bA.ints (Z (D L)) bj Fc aZ (λ_ k=>k.size) (λV W kW hp=>?_) ?_
    ·exact ajV
    iterate 2 refine bA.i ?_
    refine bA.op (λv W=>∃b,v=.map (I b)/\Z (D L)<=b/\fC encI W b []) (λ_ _ _ ⟨b,e,O,T⟩ k=>⟨b,e,O,T.st k⟩) (λV W kW hp=>?_) ?_
    ·simp[dC,aL,bR,JV underlying159,eH];exact Y0
    refine bA.op (λv W=>∃b,v=.map (I b)/\Z (D L)<=b/\fC nS W b []) (λ_ _ _ ⟨b,e,O,T⟩ k=>⟨b,e,O,T.st k⟩) (λV W kW hp=>?_) ?_
    ·simp[dC,aL,bR,JV underlying160,eH];exact Y0
    clear qs;refine⟨λk hk=>?_,λV W kW hne hA=>?_⟩
    ·simp at hk;rcases hk with rfl|rfl
     ·exact Y2
     ·exact Y2
    simp only[bU,bZ,dx,bM,Nat.reduceAdd]at hA;obtain⟨e0,e1,ia,e3,eE,e5,e6,⟨M,e7,I0,Li⟩,⟨R,e8,s8,U1⟩,-⟩:=hA;obtain⟨A5,c5,e2⟩:=ia.slice;obtain⟨A6,c6,e4⟩:=eE.slice;rw[e2]at ia;rw[e4]at eE;have aDm:M≠R:=λe=>hne 7 bq 8 bq bC rfl rfl M Y4 (by rw[e8,e];rfl)
    apply bJ.pure;rfl;simp[bP,aC,cK,e0,e2,e4,e5,e6,e7,e8,aL,bR,go_sem];rfl;refine bJ.val (aj (I ⟨Z (D W),0,U⟩)) (aU W (aq #[G J me,F A5 (Q p) c5,F A6 (Q bj) c6,aj (I ⟨gl,0,U⟩),G E y.life,F Al (Q y.list) cl,F Ap (Q y.prom) cp,F Aa (Q y.ab) ca,F U 0 0,G E 0,.map (I M),F U 0 0,.map (I R),F U 0 0] 162)) rfl ajW ?_;apply bJ.pure;rfl;simp[bP,aC,cK,aL,bR,go_sem];rfl;apply bJ.pure;rfl;simp[bP,aC,cK,aL,bR,go_sem];rfl;refine bJ.nil ?_;simp only[iu,Act.put,ue,tC,tB,Nat.reduceAdd,cK,e0,e1,e2,e3,e4,e5,e6,e7,e8];have hbk:=bn.new W 162 #[G J me,F A5 (Q p) c5,F A6 (Q bj) c6,aj (I ⟨gl,0,U⟩),G E y.life,F Al (Q y.list) cl,F Ap (Q y.prom) cp,F Aa (Q y.ab) ca,F U 0 0,G E 0,.map (I M),F U 0 0,.map (I R),F U 0 0];have ka:=hbk.cC;generalize hWa:W.alloc _=Wa at *;generalize dF:Z (D W)=g9 at *;have HQ:Hid (Post (ak (au #[aj (I ⟨g9,0,U⟩),G J 0])) Wa):=aY (by
     have:=B.size;have:=Fg.aX.size;have:=Jh.aX.size;have k5:=B.tr (kW.tr ka);have an3:=HLG.aX.st k5;have aD4:=HLG.aX.lt;have:=Li.lt;have:=U1.lt;have an4:=Li.st ka;have an5:=U1.st ka;refine yH.aX _ _ ⟨g9,gl,gd,M,R,H,vr,F A5 (Q p) c5,F A6 (Q bj) c6,F Al (Q y.list) cl,F Ap (Q y.prom) cp,F Aa (Q y.ab) ca,F U 0 0,F U 0 0,F U 0 0,[]⟩ Bw.aX ⟨rfl,rfl,⟨hbk,an3,an4,an5,λW' u=>?_,λk hk=>aJ hk,λk hk=>?_,aDm⟩,?_,λk hk=>?_,?_⟩
     ·have aDn:∀k,k<Z (D S)->(k<Z (D w)∨k=g9∨k=M∨k=R∨mm gl gd H vr k)->(k<Z (D wr)∨mm gl gd H vr k):=λk hk t=>by
       rcases t with t|t|t|t|t
       ·exact aI aZ
       ·omega
       ·omega
       ·omega
       ·exact aJ t
      have C:=(HST.aX.to (X:=λ_=>False) (N:=λk=>k<Z (D w)∨k=g9∨k=M∨k=R∨mm gl gd H vr k) (bf.bS k5 _) (λk hk=>hk.elim) aDn) W' u;have hno:∀(l:List Int) (A:Option Addr) (c:Nat),bK (λk=>k<Z (D L)) (Z (D L)) 3 eu l (F A (Q l) c) W->∀b,aW (F A (Q l) c)=I b->¬(b<Z (D w)∨b=g9∨b=M∨b=R∨mm gl gd H vr b):=λl A c hO b hb t=>by
       have:=hO.blk b hb;obtain⟨css,hr,-,-⟩:=hO;obtain⟨cur,an6⟩:=nK hr hb;rcases t with t|t|t|t|t
       ·omega
       ·omega
       ·subst t;exact Li.cells an6
       ·subst t;exact U1.cells an6
       ·have:=aD4 b t;omega
      have hi1:=(NG ia (hno p A5 c5 ia)) W' ((bf.bS ka _).tr u);have hi2:=(NG eE (hno bj A6 c6 eE)) W' ((bf.bS ka _).tr u);exact⟨hi1,hi2,C.1,C.2.1,C.2.2,gN _ _,gN _ _,gN _ _,azI _⟩
     ·have h9:=hbk.lt;rcases hk with hk|hk|hk|hk|hk
      ·omega
      ·exact hk▸h9
      ·exact hk▸an4.lt
      ·exact hk▸an5.lt
      ·exact an3.lt k hk
     ·exact (bf.bS Jh.aX _).tr (Fg.aX.tr (bf.bS k5 _))
     ·rcases hk with hk|hk|hk|hk
      ·right;show _<=k;simp only at hk;omega
      ·right;simp only at hk;omega
      ·right;simp only at hk;omega
      ·exact (Bz.aX k hk).imp id λh=>aZ
     ·show Z (D w)<=g9;omega)
    clear Li U1 hbk ka ia eE yH yI;go_wp2;exact HQ.aX
   ·rw[bO hfit]at Y;obtain⟨H,rfl,hd,hu⟩:=Y;have z:=bn.new S 61 ot;have q7:=z.cell;have z7:=z.frozen;have B:=z.cC;have HZ:=aY (yI.aX _ _ hfit ⟨H,rfl,hd.st B,(hu.zW Jh.aX HDX.aX).k B⟩);clear hd hu hfit yH yI B;go_upto_region 14 with fail;generalize S.alloc _=L at *;clear q7 z7 z;go_wp2;exact HZ.aX
structure cX(B:cJ):Prop where
 tr:iQ B.par=aA
 me:iJ B.par B.me=aA
 hm:nV B.par B.bj=aA
 dk:jl B.dk B.st
 tx:lG B.bH
 calls:B.calls<4611686018427387904
 dq:∀x∈B.dq,fI x.2=aA/\pW x.2
 told:Q B.told<=1000000
 ie:Q B.refused<=1000000
 waits:∀x∈B.waits,dm x=aA/\dQ x
 BB:Q B.waits<=1000000
theorem RL{p bj}(h:nV p bj=aA):1<=Q bj/\Q bj<=32:=by
 grind [nV]
theorem ae9{M p B w}(h:cS M p B w)(L:cX B) c :
 aK prog 117 #[aj (I ⟨p.g,0,U⟩),G J c] w λe w'=>e=ak (ar (AZ B c))/\K w w':=by
 have y:Hid (AZ B c=(decide (0<=c)&&decide (c<(Q B.bj:Int))&&decide (B.bj[c.toNat]?=I B.me))):=aY rfl
 have q:=h.q
 have z:=h.df.now.bj
 have:=RL L.hm
 obtain⟨g,gl,gd,gr,gt,vd,vr,vp,vh,vl,vq,va,vt,vf,vw,kr⟩:=p
 simp only at q z
 obtain⟨A,c1,rfl,C,-⟩:=z
 obtain⟨b,O,rfl,N⟩:=ints_at C aZ
 generalize AZ B c=R at *
 go_in
 go_upto_region 1 with fail
 rcases (show ¬0<=c∨(0<=c/\¬c<(Q B.bj:Int))∨(0<=c/\c<(Q B.bj:Int)) by omega)with j|⟨j,t⟩|⟨j,t⟩
 have HR:Hid (R=az):=aY (by rw[y.aX];simp[j])
 have qs:=aB q j
 rotate_left
 have HR:Hid (R=az):=aY (by rw[y.aX];simp[t])
 have qs:=aB q (aB j t)
 rotate_left
 obtain⟨n,rfl⟩:∃n:Nat,c=(n:Int):=⟨c.toNat,aZ⟩
 have hn:n<Q B.bj:=aZ
 have H:=λW k=>N W k n hn
 have HR:Hid (R=decide (B.bj[n]=B.me)):=aY (by rw[y.aX];simp[t,hn])
 generalize B.bj[n]=x at *
 have qs:=aB q (aB j (aB t H))
 all_goals
  refine eQ 26 ?_
  iterate 26 refine bA.i ?_
  intro V W kW hA
  simp only[bU,bZ,dx,bM,Nat.reduceAdd]at hA
  refine bJ.h ?_
  go_wp2
  go_ret
  exact⟨ib,kW⟩
theorem ane:(prog.info? 178).map (λi=>(i.zero,i.size,i.bytes))=I (I (av (jm ya (F U 0 0) (F U 0 0))),9,104):=by rfl
theorem LF:ir prog 158 178 (av (jm ya (F U 0 0) (F U 0 0))) 9 104:=⟨underlying158,ane,rfl,bC⟩
def Gk(g:Nat)(x:bW)(v:aQ)(W:aP):Prop:=∃vf ve,v=av (bQ x vf ve)/\Fx (λk=>k<g) (λW=>cF.rel x (bQ x vf ve).toList W) W
def Pw(g:Nat)(t:fT)(v:aQ)(W:aP):Prop:=∃vf ve,v=av (jm t vf ve)/\Fx (λk=>k<g) (λW=>eC.rel t (jm t vf ve).toList W) W
theorem ajX{g x} v w w'(h:Gk g x v w)(k:K w w'):Gk g x v w':=h.imp λ_ h=>h.imp λ_ h=>⟨h.1,h.2.k k⟩
theorem anf{g x} v w w'(h:Pw g x v w)(k:K w w'):Pw g x v w':=h.imp λ_ h=>h.imp λ_ h=>⟨h.1,h.2.k k⟩
theorem aaw{B g}(hg:g<=B){x v w}(h:yd B x v w):Gk g x v w:=by obtain⟨vf,ve,e,j⟩:=Et h;exact⟨vf,ve,e,j.less λk hk=>cQ hk hg⟩
theorem Gk.tx{g t vf ve w}(h:Fx (λk=>k<g) (λW=>cF.rel t.e (bQ t.e vf ve).toList W) w):Fx (λk=>k<g) (λW=>eC.rel t (jm t vf ve).toList W) w:=h.mono λW ⟨j,y,e,h1,h2⟩=>by exact Sq
theorem Mx l v w(h:bw eC l v w)(hs:∀t∈l,fX t.e)(hn:Q l<=1000000) :
 aK prog 211 #[v] w λe w'=>∃v',e=ak v'/\cE (Z (D w)) (Z (D w)) 178 eC l v' w'/\K w w':=by
 obtain⟨A,c,rfl,hl,hc⟩:=h
 have HS:=aY hs
 have kk:=K.rf w
 go_in
 go_wp2_with fail
 go_loopw [3,5,8] (fun o _ i W=>∃j:Nat,j<=Q l/\i=G J j/\bK (fun k=>k<Z (D w)) (Z (D w)) 178 eC (l.take j) o W/\K w W) (fun _ _ i _=>Q l-(aO i).toNat)
 case atStart=>exact⟨0,aZ,rfl,by simpa using bK.nil _ _ _ _ _,kk⟩
 case round =>
  obtain⟨j,hj,rfl,H,kr⟩:=hrel;by_cases hlt:j<Q l
  ·have cd:(j:Int)<Q l:=aZ;obtain⟨b1,T,cs,rfl,hcl,hrl,d0,d⟩:=eN hl j hlt bC;have HT:Hid (l.take (j+1)=l.take j++[l[j]]):=aY bq;have hst:=HS.aX _ (dG hlt);generalize l[j]=t at *;obtain⟨vf,ve,rfl,X,Y⟩:=hrl w (K.rf w);obtain⟨y,B,rfl⟩:=dK X;obtain⟨z,C,rfl⟩:=bD Y;have HE:Hid (∀W,K w W->fc t.e (av (bQ t.e (F y (Q t.e.f) B) (F z (Q t.e.es) C))) W):=aY λW k=>⟨_,_,rfl,fJ _ _ _ _ X k,cH Y k⟩
   have d0:∀W,K w W->W.cell? ⟨b1,T+j*9,U⟩=I (G J t.e.kind):=d0;have d:∀W,K w W->∀i,i<9->W.cell? ⟨b1,T+j*9+i,U⟩=(jm t (F y (Q t.e.f) B) (F z (Q t.e.es) C))[i]?:=λW k i hi=>(d W k i hi).trans aD
   have:Q (l.take j)<=1000000:=cG;have oQ:=H.blk;have O:=bn.new wr 178 (jm t (F y (Q t.e.f) B) (F z (Q t.e.es) C));have kA:=O.cC;have sX:Z (D wr)<Z (D (aU wr (aq (jm t (F y (Q t.e.f) B) (F z (Q t.e.es) C)) 178))):=bq;go_upto_region 5 with fail;have fu:=H.st kA;generalize wr.alloc _=L at *;have tQ:=kr.size;generalize Z (D wr)=g5 at O sX tQ oQ⊢;generalize F y (Q t.e.f) B=vf at *;generalize F z (Q t.e.es) C=ve at *;have M:=kr.tr kA;have qs:=O.cells;refine eQ 8 ?_;iterate 3 refine bA.i ?_
   refine bA.c (Gk (Z (D L)) t.e) ajX (λW k=>(MA t.e _ W (HE.aX _ (M.tr k)) hst).mono λe w' ⟨v,e1,ho,k1⟩=>⟨v,e1,aaw k.size ho,k1⟩) ?_;iterate 2 refine bA.i ?_
   refine bA.op (Pw (Z (D L)) t) anf (λV W kW hp=>?_) ?_
   ·exact Y5
   refine bA.row (S:=eC) (N:=λk=>k<Z (D L)) _ _ 9 104 LF rfl bC _ t rfl rfl (λV W kW hp=>?_) ?_
   ·exact ajY
   intro V W kW hA;simp only[bU,bZ,dx,bM,Nat.reduceAdd]at hA;obtain⟨f0,-,-,-,-,-,-,f7,-⟩:=hA;have zX:=fu.st kW;refine bJ.push (.tmp 12) (.tmp 19) 158 _ 9 104 LF rfl rfl rfl u3 (l.take j) t f0 zX (f7.less λk hk=>?_) aZ (cI M.size kW.size) ?_
   ·grind
   intro v9 w9 R dF _ cN;rw[<- HT.aX]at R;have kW9:=(M.tr kW).trans (cN.mono (bL _));have qs:=True.intro;have hA:=f0;refine bJ.p ?_;refine bJ.e ?_;generalize V 7=v7 at *;go_wp2;go_roundw
   case rel=>exact⟨j+1,aZ,cU,R,kW9⟩
   case measure=>simp[aO];omega
  ·have cd:¬(j:Int)<Q l:=aZ;rw[iw aZ]at H;have HO:=aY H.toL;exact Y6
theorem axA{l a k}(hk:k<Q l)(h:pV a l[k]=aA)(j:∀t∈l.take k,pV a t=az):lI l a=I k:=by
 grind [lI,List.findIdx?_eq_some_iff_getElem,List.mem_take_iff_getElem]
theorem avH{l a}(j:∀t∈l,pV a t=az):lI l a=none:=by
 grind [pV,lI]
theorem axB{l a k}(h:lI l a=I k):uh l a=(k:Int):=by grind [uh]
theorem avI{l a}(h:lI l a=U):uh l a=-1:=by grind [uh]
theorem azK a t:pV a t=(decide (t.e.br=a.1)&&decide (t.e.life=a.2.1)&&decide (t.e.dN=a.2.2)):=by
 grind [pV,mR]
theorem aun t a v g w(h:Pd t v w)(hg:bn w g 42 #[G J a.1,G E a.2.1,G E a.2.2]) :
 aK prog 210 #[v,aj (I ⟨g,0,U⟩)] w λe w'=>e=ak (ar (pV a t))/\K w w':=by
 obtain⟨vf,ve,rfl,C,z⟩:=h
 obtain⟨A,c,rfl⟩:=dK C
 obtain⟨L,d,rfl⟩:=bD z
 have j:=aY (azK a t)
 have q:=hg.cells
 have:=λo=>(K.rf w).al o
 obtain⟨H,B,y⟩:=a
 obtain⟨⟨k,b,l,s,cl,u,f,es⟩,asked⟩:=t
 simp only at q j⊢
 generalize pV (H,B,y) ⟨⟨k,b,l,s,cl,u,f,es⟩,asked⟩=R at *
 go_in
 go_wp2
 all_goals
  go_ret
  refine⟨?_,(K.rf w).al _⟩
  rw[j.aX]
  show ak (ar _)=ak (ar _)
  first|(simp_all;done)|(simp_all;omega)|(congr 2;rw[Bool.eq_iff_iff];simp_all;omega)
theorem arR A c l a g w(h:xu eC l A w)(hlen:Q l<=1000000)(hg:bn w g 42 #[G J a.1,G E a.2.1,G E a.2.2]) :
 aK prog 209 #[F A (Q l) c,.func (Fn.func 210) #[] #[aj (I ⟨g,0,U⟩)]] w λe w'=>e=ak (G J (uh l a))/\K w w':=by
 have N:=K.rf w
 go_in
 go_wp2_with fail
 go_loopw [5,8] (fun _ i wr=>∃k:Nat,k<=Q l/\i=G J k/\Hid (∀t∈l.take k,pV a t=az)/\K w wr) (fun _ i _=>Q l-(aO i).toNat)
 case atStart=>exact⟨0,aZ,rfl,aY bq,N⟩
 case round =>
  obtain⟨k,hk,rfl,z,kr⟩:=hrel;by_cases B:k<Q l
  ·have T:(k:Int)<Q l:=aZ;obtain⟨H,C,cs,rfl,hcl,O,L,d⟩:=eN h k B bC;have R:Hid (pV a l[k]=az->∀t∈l.take (k+1),pV a t=az):=by
    refine aY λh x y=>?_
    rw[ix B]at y;rcases List.mem_append.1 y with y|y
    ·exact z.aX x y
    ·simp at y;rw[y];exact h
   have X:=aY λh=>axB (axA B h z.aX)
   generalize l[k]=t at *;obtain⟨vf,ve,rfl,M,S⟩:=O wr kr;have L:∀W,K w W->W.cell? ⟨H,C+k*9,U⟩=I (G J t.e.kind):=L;have d:∀W,K w W->∀i,i<9->W.cell? ⟨H,C+k*9+i,U⟩=(jm t vf ve)[i]?:=λW j Y=>λV=>(d W j Y V).trans aD
   go_wp2_with fail
   apply dP (aun t a _ g wr ⟨vf,ve,rfl,M,S⟩ (hg.bF kr)) kr;intro w2 k2 kW;cases y:pV a t
   ·have rA:=aY (R.aX y);exact Kl
   ·have HE:=aY (X.aX y);exact Y7
  ·have T:¬(k:Int)<Q l:=aZ;have HE:=aY (by
    have:=z.aX;rw[iw aZ]at this;exact avI (avH this))
   exact NH
theorem Rh l a v w(h:bw eC l v w)(z:Q l<=1000000) :
 aK prog 150 #[v,di a] w λe w'=>e=ak (G J (uh l a))/\K w w':=by
 obtain⟨A,c,rfl,y,-⟩:=h
 have j:=bn.new w 42 #[G J a.1,G E a.2.1,G E a.2.2]
 have k1:=j.cC
 have B:=N4 y k1
 go_in
 go_wp2_with fail
 generalize w.alloc _=C at *
 apply bN (arR A c l a _ C B z j)
 intro H t
 go_wp2
 go_ret
 exact⟨rfl,k1.tr t⟩
theorem azL(l:List fT)(a:cB):Dh l a=match lI l a with|none=>-1|some k=>if (l[k]?.map fT.asked)=I aA then -1 else (k:Int):=by
 unfold Dh ui
 cases lI l a with
 | none=>rfl
 | some k =>
  grind
theorem Xa l a v w(h:bw eC l v w)(O:Q l<=1000000) :
 aK prog 251 #[v,di a] w λe w'=>e=ak (G J (Dh l a))/\K w w':=by
 have h':=h
 obtain⟨A,c,rfl,hl,-⟩:=h
 have hx:=bn.new w 42 #[G J a.1,G E a.2.1,G E a.2.2]
 have k1:=hx.cC
 have H:=aY (azL l a)
 have N:=aY λW (kW:K w W)=>Rh l a _ W (cH h' kW) O
 have L:Hid (uh l a=match lI l a with|none=>-1|some k=>(k:Int)):=aY (by unfold uh;cases lI l a <;> rfl)
 have T:=aY λk h=>@MN l a k h
 generalize Dh l a=R at *
 generalize uh l a=B at *
 go_in
 go_wp2_with fail
 generalize w.alloc _=V at *
 apply dP (N.aX V k1) k1
 intro j k2 kW
 cases hs:lI l a with
 | none =>
  obtain rfl:B=-1:=by rw[L.aX,hs]
  obtain rfl:R=-1:=by rw[H.aX,hs]
  go_wp2;go_ret;exact⟨rfl,kW⟩
 | some k =>
  obtain rfl:B=(k:Int):=by rw[L.aX,hs]
  obtain⟨t,M,-,-⟩:=T.aX k hs;obtain⟨hk,X⟩:=aF.1 M;have z:Hid (R=if t.asked=aA then -1 else (k:Int)):=aY (by rw[H.aX,hs];simp[M]);obtain⟨Y,S,cs,rfl,hcl,C,d0,d⟩:=eN hl k hk bC;rw[X]at C;obtain⟨vf,ve,rfl,-,-⟩:=C j kW;have y:j.cell? ⟨Y,S+k*9+8,U⟩=I (ar t.asked):=d j kW 8 bC;have:(k:Int)<Q l:=aZ;have:(0:Int)<=(k:Int):=aZ;cases ha:t.asked
  ·obtain rfl:R=(k:Int):=by rw[z.aX,ha];rfl
   rw[ha]at y;go_wp2;go_ret;exact⟨rfl,kW⟩
  ·obtain rfl:R=-1:=by rw[z.aX,ha];rfl
   rw[ha]at y;go_wp2;go_ret;exact⟨rfl,kW⟩
theorem agu x v w(h:fc x v w)(t:dQ x) :
 aK prog 212 #[v] w λe w'=>e=ak (ar (ur x))/\K w w':=by
 have y:=aY λW (kW:K w W)=>Wu x v W (N5 h kW) t
 have HB:Hid (ur x=decide (3000<(Q (rM x):Int))):=aY (by
  unfold ur anq rM;rw[decide_eq_decide];omega)
 obtain⟨vf,ve,rfl,-,-⟩:=h
 have k1:=K.new w (aq (bQ x vf ve) 128)
 go_in
 go_wp2_with fail
 generalize w.alloc _=z at *
 refine (y.aX z k1).mono ?_
 rintro e H⟨C,rfl,A,j⟩
 obtain⟨B,c2,rfl,-⟩:=gD A
 go_wp2
 go_ret
 exact⟨H5,k1.tr j⟩
theorem agv l t v u w(h:bw eC l v w)(ht:Pd t u w)(hfit:dQ t.e)(hs:fX t.e)(hl:∀s∈l,fX s.e)(hlen:Q l<=1000000) :
 aK prog 152 #[v,u] w λe w'=>∃v',e=ak (au #[v',G J (x8 l t).2])/\cE (Z (D w)) (Z (D w)) 178 eC (x8 l t).1 v' w'/\K w w':=by
 obtain⟨vf,ve,rfl,hf,he⟩:=ht
 obtain⟨B,L,rfl⟩:=dK hf
 obtain⟨H,O,rfl⟩:=bD he
 have X:Hid (∀W,K w W->fc t.e (av (bQ t.e (F B (Q t.e.f) L) (F H (Q t.e.es) O))) W):=aY λW k=>⟨_,_,rfl,fJ _ _ _ _ hf k,cH he k⟩
 have HV:=aY (am6 h)
 obtain⟨A,c,rfl⟩:=bD h
 have C:Hid (x8 l t=if uh l (mR t.e)<0 then (if dm t.e=az then (l,110)else if 8<=Q l then (l,171)else if ur t.e then (l,172)else (l++[t],0))else (l,170)):=aY (by
  unfold x8 uh
  cases lI l (mR t.e)with
  | none=>simp
  | some k =>
   simp only[Option.isSome_some,if_true];rw[bO aZ])
 generalize x8 l t=R at *
 have HS:=aY hs
 have HL:=aY hl
 have HF:=aY hfit
 have z:=bn.new w 178 (jm t (F B (Q t.e.f) L) (F H (Q t.e.es) O))
 have k1:=z.cC
 go_in
 go_wp2
 go_step3
 go_wp2_with fail
 generalize w.alloc _=w1 at *
 generalize Z (D w)=g3 at z⊢
 generalize F B (Q t.e.f) L=vf at *
 generalize F H (Q t.e.es) O=ve at *
 have:=z.cells
 refine (Mx l _ w1 (HV.aX _ k1) HL.aX hlen).mono ?_
 rintro e w2⟨u6,rfl,hO,k2⟩
 have cT:=k1.tr k2
 go_wp2_with fail
 go_step3
 go_wp2_with fail
 refine (Rh l (mR t.e) _ w2 (HV.aX _ cT) hlen).mono ?_
 rintro e w3⟨rfl,Y⟩
 have oV:=k1.size
 replace hO:=hO.st Y
 replace cT:=cT.tr Y
 have j:=k2.tr Y
 have HW:=aY (cE.low (cE.floor hO oV) oV)
 generalize hI:uh l (mR t.e)=ah at C⊢
 by_cases hneg:ah<0
 rotate_left
 ·have HQ:Hid (R=(l,170)):=aY (by rw[C.aX,bO hneg]);exact Ko
 have ku:Hid (R=if dm t.e=az then (l,110)else if 8<=Q l then (l,171)else if ur t.e then (l,172)else (l++[t],0)):=aY (by rw[C.aX,bT hneg])
 go_wp2_with fail
 refine (Mz t.e _ w3 (X.aX _ cT)).mono ?_
 rintro e w4⟨rfl,M⟩
 replace hO:=hO.st M
 replace cT:=cT.tr M
 replace j:=j.tr M
 cases hok:dm t.e
 ·have HQ:Hid (R=(l,110)):=aY (by rw[ku.aX,bT hok]);have HW:=aY (cE.low (cE.floor hO oV) oV);rw[Hm hok];exact Ko
 rw[MM hok]
 by_cases h8:8<=Q l
 ·have zn:(8:Int)<=(Q l:Int):=aZ;have HQ:Hid (R=(l,171)):=aY (by rw[ku.aX,bO (by rw[hok];decide),bT h8]);exact ajZ
 have zn:¬(8:Int)<=(Q l:Int):=aZ
 go_wp2_with fail
 refine (agu t.e _ w4 (X.aX _ cT) HF.aX).mono ?_
 rintro e y⟨rfl,T⟩
 replace hO:=hO.st T
 replace cT:=cT.tr T
 replace j:=j.tr T
 cases hb:ur t.e
 rotate_left
 ·have HQ:Hid (R=(l,172)):=aY aj0;exact ajZ
 have HQ:Hid (R=(l++[t],0)):=aY aj0
 go_upto_region 10 with fail
 have gh:=z.bF j
 have oQ:=hO.blk
 have tQ:=j.size
 have fw:=cI tQ (bL (Z (D y)))
 have qs:=gh.cells
 have hOY:=hO.tR
 refine eQ 8 ?_
 iterate 3 refine bA.i ?_
 refine bA.c (Gk (Z (D y)) t.e) ajX (λW k=>(MA t.e _ W (X.aX _ (cT.tr k)) HS.aX).mono λe w' ⟨v,e1,ho,k1⟩=>⟨v,e1,aaw k.size ho,k1⟩) ?_
 iterate 2 refine bA.i ?_
 refine bA.op (Pw (Z (D y)) t) anf (λV W kW hp=>?_) ?_
 ·exact Y5
 refine bA.row (S:=eC) (N:=λk=>k<Z (D y)) _ _ 9 104 LF rfl bC _ t rfl rfl (λV W kW hp=>?_) ?_
 ·exact ajY
 intro V W kW hA
 simp only[bU,bZ,dx,bM,Nat.reduceAdd]at hA
 obtain⟨f0,-,-,-,-,-,-,f7,-⟩:=hA
 refine bJ.push (.tmp 28) (.tmp 35) 158 _ 9 104 LF rfl rfl rfl u6 l t f0 (hOY.st kW) (f7.less λk hk=>?_) aZ (cI fw kW.size) ?_
 ·rcases hk with hk|hk
  ·omega
  ·have:=oQ k hk;omega
 intro v9 w9 cR dF _ cN
 have kW9:=(cT.tr kW).trans (cN.mono oV)
 have HW:=aY (cE.low (cE.floor cR.toL oV) oV)
 have qs:=True.intro
 have hA:=f0
 refine bJ.p ?_
 refine bJ.e ?_
 generalize V 7=v7 at *
 go_wp2
 try rw[jt]
 go_ret2
 exact⟨_,pM,Ic,kW9⟩
theorem aj1 t(j:t.e.f=[])(y:t.e.es=[]) w:Pd t (av (jm t (F U 0 0) (F U 0 0))) w :=
 ⟨_,_,rfl,by rw[j];exact⟨U,0,rfl,Reads.nil _ _ _ _⟩,by rw[y];exact gN _ _⟩
theorem azM{a c}(j:dX a)(t:cV c):dQ (x9 a c):=⟨by simp[x9,cV],j.1,t,j.2.1,j.2.2,Kq,Kq,Kq⟩
theorem auo l a c v w(h:bw eC l v w)(z:dX a)(B:cV c)(t:∀s∈l,fX s.e)(C:Q l<=1000000) :
 aK prog 156 #[v,di a,G J c] w λe w'=>∃v',e=ak (au #[v',G J (AY l a c).2])/\cE (Z (D w)) (Z (D w)) 178 eC (AY l a c).1 v' w'/\K w w':=by
 have:=aY (am6 h)
 have y:=aY λW (kW:K w W)=>agv l ⟨x9 a c,az⟩ v _ W (cH h kW) (aj1 ⟨x9 a c,az⟩ rfl rfl W) (azM z B) (by simp[fX,x9]) t C
 obtain⟨A,d,rfl⟩:=bD h
 have k1:=K.new w (aq #[G J a.1,G E a.2.1,G E a.2.2] 42)
 unfold AY
 generalize x8 l ⟨x9 a c,az⟩=R at *
 go_in
 go_wp2_with fail
 generalize w.alloc _=L at *
 refine (y.aX L k1).mono ?_
 rintro e S⟨O,rfl,H,j⟩
 have M:=aY (cE.low (cE.floor H k1.size) k1.size)
 go_wp2
 go_ret2
 exact⟨_,rfl,M.aX,k1.tr j⟩
theorem agw l x v u w(h:bw eC l v w)(z:fc x u w)(B:dQ x)(L:fX x)(t:∀s∈l,fX s.e)(M:Q l<=1000000) :
 aK prog 98 #[v,u] w λe w'=>∃v',e=ak (au #[v',G J (rV l x).2])/\cE (Z (D w)) (Z (D w)) 178 eC (rV l x).1 v' w'/\K w w':=by
 obtain⟨vf,ve,rfl,y,C⟩:=z
 have H:=aY λW (kW:K w W)=>agv l ⟨x,aA⟩ v (av (jm ⟨x,aA⟩ vf ve)) W (cH h kW) ⟨vf,ve,rfl,fJ _ _ _ _ y kW,cH C kW⟩ B L t M
 obtain⟨A,d,rfl⟩:=bD h
 have k1:=K.new w (aq (bQ x vf ve) 128)
 unfold rV
 generalize x8 l ⟨x,aA⟩=R at *
 go_in
 go_wp2_with fail
 generalize w.alloc _=O at *
 refine (H.aX O k1).mono ?_
 rintro e V⟨T,rfl,N,j⟩
 have S:=aY (cE.low (cE.floor N k1.size) k1.size)
 go_wp2
 go_ret2
 exact⟨_,rfl,S.aX,k1.tr j⟩
theorem Wp{α:Type} n:∀(css:List (List α)),(∀cs∈css,Q cs=n)->∀k,(css.take k).flatten=css.flatten.take (k*n)
 | [],_,k=>bq
 | c :: css,h,0=>bq
 | c :: css,h,k+1=>by have hc:=h c bq;have ih:=Wp n css (λx hx=>h x Ki) k;exact ai8
theorem Wq{α:Type} n:∀(css:List (List α)),(∀cs∈css,Q cs=n)->∀k,(css.drop k).flatten=css.flatten.drop (k*n)
 | [],_,k=>bq
 | c :: css,h,0=>bq
 | c :: css,h,k+1=>by have hc:=h c bq;have j:=Wq n css (λx hx=>h x Ki) k;rw[List.drop_succ_cons,List.flatten_cons,j,List.drop_append,show List.drop ((k+1)*n) c=[]from List.drop_eq_nil_of_le RZ,hc,show (k+1)*n-n=k*n by rw[Nat.succ_mul];omega,bU]
theorem bn.ang:∀(vs:List aQ) {w:aP} {g o:Nat} {e:TypeId} {cur:Array aQ},bn w g e cur->bn (w.setCells g o vs) g e (Lib.lay cur o vs)
 | [],_,_,_,_,_,h=>h
 | v :: r,_,_,o,_,_,h=>bn.ang r (o:=o+1) (h.cz o v)
theorem afa g:∀(vs:List aQ) (o:Nat) (w:aP),w.grownBy (w.setCells g o vs) (I g)
 | [],_,w=>⟨rfl,rfl,rfl,bL _,λ_ _ _=>rfl⟩
 | v :: r,o,w=>by have h:=afa g r (o+1) (aV w ⟨g,o,U⟩ v);exact⟨h.os,h.tape,h.output,by have t:=h.size;rw[show Z (D (aV w ⟨g,o,U⟩ v))=Z (D w) by simp]at t;exact t,λk hk j=>(h.block k vD j).trans (Below.heap_setCell w ⟨g,o,U⟩ v k (by rintro rfl;exact j rfl))⟩
theorem asF{P w t e z cur}(y:P.underlying t=some (.slice e))(C:∀w,(zeroValue e).run P w=.ok z w) g o(hb:bn w g e cur)(L:o+z.cells.size<=cur.size)(B:∀u∈z.cells.toList,u.oneCell'=aA) :
 ∃w',(∀ty c,(Builtin.clear_ #[t] ty #[F (I ⟨g,o,U⟩) 1 c]).run P w=.ok (au #[]) w')/\bn w' g e (cur.toList.take o++z.cells.toList++cur.toList.drop (o+z.cells.size)).toArray/\w.grownBy w' (I g):=by
 have j:=run_storeCells_at P g o e z.cells.toList 0 cur w hb aZ B
 simp only[Nat.add_zero,Array.length_toList]at j
 have H:(Builtin.zeroCells z.cells 1).toList=z.cells.toList:=by
  simp[Builtin.zeroCells];apply List.ext_getElem
  ·simp
  ·grind [Nat.mod_eq_of_lt]
 refine⟨_,λty c=>?_,setRow_heap w g cur _ e _ hb,⟨rfl,rfl,rfl,bq,λk hk A=>setRow_other w g k _ (λe=>A FO)⟩⟩
 simp[Builtin.clear_,run_underlying y,C,H,j]
theorem aCC W:(zeroValue 178).run prog W=.ok (av (jm ya (F U 0 0) (F U 0 0))) W:=by rfl
theorem atk l(base k j:Nat)(hj:j=k+1) v w(h:cE base base 178 eC l v w)(hk:k<Q l)(hlen:Q l<=1000000) :
 aK prog 294 #[v,G J k,G J j] w λe w'=>∃v',e=ak v'/\cE base base 178 eC (l.eraseIdx k) v' w'/\w.grownBy w' (aW v):=by
 obtain⟨css,M,hcl,H⟩:=h
 have C:∀cs∈css,Q cs=9:=(H w (bV.rf _ _ _)).lens
 have X:=(H w (bV.rf _ _ _)).ones
 rcases M.2 with ⟨h0,BZ⟩|⟨g,cap,cur,rfl,g1,g2,g3,g4,R,O⟩
 ·omega
 have R:cur.size=cap*9:=R
 have O:cur.toList.take (Q l*9)=css.flatten:=O
 have hb:bn w g 178 cur:=g2
 have dM:Q css.flatten=Q l*9:=M.1
 obtain⟨y,S⟩:∃y,y=css.flatten.drop (j*9):=⟨_,rfl⟩
 obtain⟨m,hm⟩:∃m,m=Q l-j:=⟨_,rfl⟩
 have hnl:Q y=m*9:=bG
 have aaN:∀t u,y[t]?=I u->cur[j*9+t]?=I u:=by
  grind
 obtain⟨A,hA,hsrc⟩:∃A:Addr,(if cap=j then (I ⟨g,0,U⟩:Option Addr)else I ⟨g,j*9,U⟩)=I A/\Hid (∀t u,y[t]?=I u->w.drew.cell? (A.add t)=I u):=by
  by_cases h:cap=j
  ·refine⟨⟨g,0,U⟩,Kg,λt u hu=>?_⟩;have h0:Q y=0:=aZ;rw[List.length_eq_zero_iff.1 h0]at hu;simp at hu
  ·refine⟨⟨g,j*9,U⟩,Kg,λt u hu=>?_⟩;rw[Addr.add_lit];exact (hb.cell _).trans (aaN t u hu)
 have s1:Hid (Q y=m*9):=hnl
 have s2:Hid (∀u∈y,u.oneCell'=aA):=λu hu=>X u (List.mem_of_mem_drop (by rw[<- S];exact hu))
 have s3:Hid (∀t,t<Q y->(w.drew.cell? ⟨g,0+k*9+t,U⟩).isSome=aA/\w.drew.frozen? ⟨g,0+k*9+t,U⟩=az):=by intro t ht;refine⟨?_,hb.frozen _⟩;show (w.cell? _).isSome=aA;rw[hb.cell,Array.getElem?_eq_getElem aZ];rfl
 obtain⟨W1,L⟩:∃W1,W1=w.drew.setCells g (0+k*9) y:=⟨_,rfl⟩
 have W:bn W1 g 178 (Lib.lay cur (0+k*9) y):=by rw[L];exact bn.ang y hb.drew
 have z:w.drew.grownBy W1 (I g):=by rw[L];exact afa g y _ _
 have N:(Lib.lay cur (0+k*9) y).size=cap*9:=by rw[Lib.lay_size,R]
 obtain⟨V,aDV,hb2,B⟩:=asF (P:=prog) (w:=W1) (t:=158) (e:=178) underlying158 aCC g ((Q l-1)*9) W (by rw[N];show (Q l-1)*9+9<=_;omega) aBf
 have HW:Hid (cE base base 178 eC (l.eraseIdx k) (F (I ⟨g,0,U⟩) (Q l-1) cap) V/\w.grownBy V (I g)):=by
  have gL:w.grownBy V (I g):=⟨B.os.trans z.os,B.tape.trans z.tape,B.output.trans z.output,cI z.size B.size,λk hk Y=>(B.block k (cQ hk z.size) Y).trans (z.block k hk Y)⟩;have T:Q (l.eraseIdx k)=Q l-1:=bG;have Px:Q (css.eraseIdx k)=Q l-1:=bG;refine⟨⟨css.eraseIdx k,⟨?_,aJ ⟨g,cap,_,by rw[T],g1,hb2,aZ,g4,?_,?_⟩⟩,aZ,λw' u=>?_⟩,gL⟩
  ·rw[T,Eg 9 _ (λcs h=>C cs (List.mem_of_mem_eraseIdx h)),Px];rfl
  ·have h9:(av (jm ya (F U 0 0) (F U 0 0))).cells.size=9:=rfl;simp only[List.size_toArray,eU,qN,List.length_drop,Array.length_toList,N,h9];show _=cap*9;omega
  ·show List.take (Q (l.eraseIdx k)*9) _=_;rw[T,fN,List.take_append_of_le_length bG,List.take_take,Nat.min_self,List.eraseIdx_eq_take_drop_succ,List.flatten_append,Wp 9 css C,Wq 9 css C,<- hj,<- S];apply List.ext_getElem?;intro t;by_cases ht:t<(Q l-1)*9
   ·rw[List.getElem?_take_of_lt ht,aD,Lib.lay_get? _ _ _ _ aZ];by_cases h1:t<k*9
    ·grind
    grind
   grind
  ·have Py:=H w' (bV.tr (bV.gy gL base) u);rw[List.eraseIdx_eq_take_drop_succ,List.eraseIdx_eq_take_drop_succ];exact (Py.take k).append (Py.drop (k+1))
 have hW:Hid (W1=w.drew.setCells g (0+k*9) y):=L
 obtain⟨i0,hi0,hz0⟩:=Option.map_eq_some_iff.1 ane
 have hz1:i0.size=9:=bG
 have:k+m=Q l-1:=aZ
 have:k<=cap:=aZ
 have:k≠j:=aZ
 have:k<=j:=aZ
 have:j<=Q l:=aZ
 have:=hm.symm
 have yr:Q l-(Q l-1)=1:=aZ
 have:¬(k:Int)=j:=aZ
 clear hm hj
 clear L hcl H C X M O hb dM S hnl aaN W z N hb2 B g2
 go_in
 go_wp2_with fail
 go_region_law (refine step_append_room rfl (.tmp 22) (.tmp 25) 158 rfl 178 i0 9 underlying158 hi0 hz1 g 0 k cap cY A m (cap-j) y cY s1.aX hsrc.aX s2.aX aZ s3.aX ?_;rw[<- hW.aX])
 go_wp2
 go_ret
 exact⟨_,rfl,HW.aX.1,HW.aX.2⟩
theorem avJ l a v w(h:bw eC l v w)(hl:∀s∈l,fX s.e)(T:Q l<=1000000) :
 aK prog 174 #[v,di a] w λe w'=>∃v',e=ak (au #[v',G J (jN l a).2])/\cE (Z (D w)) (Z (D w)) 178 eC (jN l a).1 v' w'/\K w w':=by
 have C1:=aY λW (kW:K w W)=>Mx l v W (cH h kW) hl T
 have C2:=aY λW (kW:K w W)=>Xa l a v W (cH h kW) T
 obtain⟨A,d,rfl⟩:=bD h
 have O:=bn.new w 42 #[G J a.1,G E a.2.1,G E a.2.2]
 have k1:=O.cC
 have HI:Hid (Dh l a=match ui l a with|some k=>(k:Int)|none=>-1):=aY rfl
 have HC:Hid (jN l a=match ui l a with|none=>(l,170)|some k=>match l[k]? with|none=>(l,170)|some t=>(l.set k ⟨t.e,aA⟩,0)):=aY rfl
 have HO:=aY λk h=>@Rb l a k h
 generalize jN l a=R at *
 generalize Dh l a=X at *
 go_in
 go_wp2_with fail
 generalize w.alloc _=C at *
 have z:=k1.size
 have H:Hid (Z (D w)=Z (D w)):=aY rfl
 generalize gL:Z (D w)=g at O z H⊢
 replace H:=aY gL
 have:=O.cells
 apply tH (C1.aX C k1) k1
 intro v2 w2 B k2 y
 go_wp2_with fail
 apply bN (C2.aX w2 y)
 intro j k3
 replace y:=y.tr k3
 replace B:=B.st k3
 cases ho:ui l a with
 | none => obtain rfl:X=-1:=CY;have HQ:Hid (R=(l,170)):=aY NI;have N:=aY (cE.low (cE.floor B z) z);go_wp2;go_ret2;exact⟨_,pM,by rw[HQ.aX,H.aX];exact N.aX,y⟩
 | some k =>
  obtain rfl:X=(k:Int):=CY;obtain⟨t,h1,-,-,-⟩:=HO.aX k ho;have HQ:Hid (R=(l.set k ⟨t.e,aA⟩,0)):=aY Y8;obtain⟨hk,xv⟩:=aF.1 h1;have:(k:Int)<Q l:=aZ;have:¬(k:Int)<0:=aZ;have hkb:=B.blk;obtain⟨css,L,hcl,S⟩:=B;have xX:=(S j (bV.rf _ _ _)).lens;have hkc:k<Q css:=aZ;have dM:=(S j (bV.rf _ _ _)).Gf;have M:k*9+8<Q css.flatten:=by rw[dM];show k*9+8<Q l*9;omega
  rcases L.2 with ⟨h0,BZ⟩|⟨go,cap,cur,rfl,-⟩
  ·omega
  obtain⟨hcell,hfz⟩:=Hi L;have d8:=hcell _ M;rw[aE M]at d8;have:=hfz (k*9+8);have aaB:=Yt L M (ar aA);have e9:css.flatten.set (k*9+8) (ar aA)=(css.set k ((css[k]).set 8 (ar aA))).flatten:=by rw[show k*9+8=k*eC.size+8 from rfl];exact Q3 eC.size (ar aA) css xX k 8 hkc bC
  rw[e9]at aaB;have:=(hkb go rfl).1;have k4:K w (aV j ⟨go,k*9+8,U⟩ (ar aA)):=y.setCell (by have:=k1.size;simp;omega) _;have N:Hid (cE g g 178 eC (l.set k ⟨t.e,aA⟩) (F (I ⟨go,0,U⟩) (Q l) cap) (aV j ⟨go,k*9+8,U⟩ (ar aA))):=by refine aY (cE.low (cE.floor (base:=Z (D C)) (lo:=Z (D C)) (e:=178) ⟨css.set k ((css[k]).set 8 (ar aA)),bG,by simp[hcl],λw' u=>?_⟩ z) z);have u3:bV (Z (D C)) (I go) j w':=bV.tr (a:=j) (b:=j.setCell ⟨go,k*9+8,U⟩ (ar aA)) ⟨rfl,rfl,rfl,bq,λi _ _ h3=>Below.heap_setCell j ⟨go,k*9+8,U⟩ (ar aA) i (by rintro rfl;exact h3 rfl)⟩ u;have Py:=S w' u3;refine Py.set k ?_;obtain⟨vf,ve,Y,V,he⟩:=Py.2 k hk hkc;rw[xv]at Y V he;exact⟨vf,ve,by rw[Y];rfl,V,he⟩
  go_wp2;go_ret2;exact⟨_,pM,by rw[HQ.aX,H.aX];exact N.aX,k4⟩
theorem Ri l a v w(h:bw eC l v w)(hl:∀s∈l,fX s.e)(z:Q l<=1000000) :
 aK prog 249 #[v,di a] w λe w'=>∃v',e=ak v'/\cE (Z (D w)) (Z (D w)) 178 eC (iq l a) v' w'/\K w w':=by
 have O:=aY λW (kW:K w W)=>Mx l v W (cH h kW) hl z
 have C2:=aY λW (kW:K w W)=>Rh l a v W (cH h kW) z
 obtain⟨A,d,rfl⟩:=bD h
 have L:=bn.new w 42 #[G J a.1,G E a.2.1,G E a.2.2]
 have k1:=L.cC
 have HI:Hid (uh l a=match lI l a with|some k=>(k:Int)|none=>-1):=aY rfl
 have HC:Hid (iq l a=match lI l a with|none=>l|some k=>l.eraseIdx k):=aY rfl
 have Y:=aY λk h=>@MN l a k h
 generalize iq l a=R at *
 go_in
 go_wp2_with fail
 generalize w.alloc _=H at *
 apply dD (O.aX H k1)
 rintro u5 w2⟨y,V⟩
 have q:=L.cells
 have j:=k1.tr V
 generalize uh l a=C at *
 go_wp2_with fail
 apply bN (C2.aX w2 j)
 intro X N
 replace j:=j.tr N
 replace y:=y.st N
 cases ho:lI l a with
 | none => obtain rfl:C=-1:=CY;have HQ:Hid (R=l):=aY NI;have HW:=aY (cE.low (cE.floor y k1.size) k1.size);go_wp2;go_ret;exact⟨_,rfl,Ic,j⟩
 | some k =>
  obtain rfl:C=(k:Int):=CY;have HQ:Hid (R=l.eraseIdx k):=aY NI;obtain⟨t,h1,-⟩:=Y.aX k ho;obtain⟨hk,-⟩:=aF.1 h1;have M:=atk l (Z (D H)) k (k+1) rfl u5 X y hk z;rw[show ((k+1:Nat):Int)=(k:Int)+1 by omega]at M;have S:=aY M;have hb:=y.blk;have:¬(k:Int)<0:=aZ;have B:=k1.size;have HB:=aY λg h=>cI B (hb g h).1
  have:(k:Int)<1000000:=aZ;go_wp2_with fail
  apply dD S.aX;rintro v4 w4⟨fq,hg4⟩;have HW:=aY (cE.low (cE.floor fq B) B);have T:=(bV.gy hg4 0).k j HB.aX;go_wp2;go_ret;exact⟨_,rfl,Ic,T⟩
theorem axC l a v w(h:bw eC l v w)(t:∀s∈l,fX s.e)(j:Q l<=1000000) :
 aK prog 175 #[v,di a] w λe w'=>∃v',e=ak (au #[v',G J (jO l a).2])/\cE (Z (D w)) (Z (D w)) 178 eC (jO l a).1 v' w'/\K w w':=by
 have H:=aY λW (kW:K w W)=>Mx l v W (cH h kW) t j
 have M:=aY λW (kW:K w W)=>Xa l a v W (cH h kW) j
 have L:=aY λW (kW:K w W)=>Ri l a v W (cH h kW) t j
 obtain⟨A,d,rfl⟩:=bD h
 have y:=bn.new w 42 #[G J a.1,G E a.2.1,G E a.2.2]
 have k1:=y.cC
 have HI:Hid (Dh l a=match ui l a with|some k=>(k:Int)|none=>-1):=aY rfl
 have B:Hid (jO l a=if (ui l a).isSome then (iq l a,0)else (l,170)):=aY rfl
 generalize jO l a=R at *
 have q:=y.cells
 go_in
 go_wp2_with fail
 generalize w.alloc _=N at *
 apply dP (M.aX N k1) k1
 intro C O cT
 generalize Dh l a=z at *
 cases ho:ui l a with
 | none =>
  obtain rfl:z=-1:=CY;have HQ:Hid (R=(l,170)):=aY (by rw[B.aX,ho];rfl);go_wp2_with fail
  apply dD (H.aX C cT);exact aj2
 | some k =>
  obtain rfl:z=(k:Int):=CY;have HQ:Hid (R=(iq l a,0)):=aY (by rw[B.aX,ho];rfl);generalize iq l a=T at *;go_wp2_with fail
  apply dD (L.aX C cT);exact aj2
theorem Q6{M p B w}(h:cS M p B w) :
 aK prog 161 #[aj (I ⟨p.g,0,U⟩)] w λe w'=>e=ak (ar (pn B))/\K w w':=by
 have HR:Hid (pn B=decide (B.me=0)):=aY rfl
 have q:=h.blk.cell
 obtain⟨g,gl,gd,gr,gt,vd,vr,vp,vh,vl,vq,va,vt,vf,vw,kr⟩:=p
 simp only at q
 have j:=K.rf w
 generalize pn B=R at *
 go_in
 go_wp2
 go_ret
 exact⟨ib,j⟩
theorem WN{M p B w}(h:cS M p B w)(X:cX B) :
 aK prog 165 #[aj (I ⟨p.g,0,U⟩)] w λe w'=>∃v',e=ak v'/\bK (λk=>k<Z (D w)) (Z (D w)) 3 eu (rR B) v' w'/\K w w':=by
 have hn:Q B.par<=1000000:=by have:=ud X.tr;omega
 have q:=h.q
 have z:=aY λW (k:K w W)=>aug B.par B.me p.vp W (h.df.at k).par hn
 have y:=bD h.df.now.par
 obtain⟨g,gl,gd,gr,gt,vd,vr,vp,vh,vl,vq,va,vt,vf,vw,kr⟩:=p
 simp only at q z y
 obtain⟨A,c,rfl⟩:=y
 unfold rR
 generalize Iq B.par B.me=R at *
 go_in
 go_upto_region 1 with fail
 have qs:=q
 refine eQ 9 ?_
 iterate 8 refine bA.i ?_
 refine bA.op (λv W=>bK (λk=>k<Z (D w)) (Z (D w)) 3 eu R v W) (λ_ _ _ h k=>h.st k) (λV W kW hp=>?_) ?_
 ·(try simp only[dE,bU,bZ,dA,dB,bM]at hp)
  simp[dC,bP,aC,hp,eH,aL,bR,q,go_sem];apply dD (z.aX W kW);rintro v4 w4⟨j,k4⟩;exact⟨_,rfl,(j.less λk hk=>cQ hk kW.size).low kW.size,k4⟩
 intro V W kW hA
 simp only[bU,bZ,dx,bM,Nat.reduceAdd]at hA
 obtain⟨Y,H,T,L,N,O,S,C,j,-⟩:=hA
 obtain⟨A2,c2,t⟩:=j.slice
 rw[t]at j
 apply bJ.pure
 rfl
 simp[bP,aC,cK,t,aL,bR,go_sem]
 rfl
 refine bJ.nil ?_
 simp only[iu,Act.put,ue,tC,tB,Nat.reduceAdd,cK,Y,H,T,L,N,O,S,C,t]
 go_wp2
 go_ret
 exact⟨_,rfl,j,kW⟩
theorem afK l a:(eA (rT l) a).isSome=fD l a:=by
 have key:∀(l:List cB) (n i:Nat),(iG a ((l.zipIdx n).map λp=>(p.1,G J p.2)) i).isSome=fD l a:=by
  intro l
  induction l with
  | nil=>intro n i;rfl
  | cons x l j =>
   intro n i;simp only[List.zipIdx_cons,lT,iG,fD,List.any_cons];by_cases h:x=a
   ·simp[h]
   ·grind [eA,rT,fD]
 unfold eA rT
 grind
theorem Y9 W:(zeroValue 3).run prog W=.ok (G J 0) W:=by rfl
theorem Ws{M p B w}(h:cS M p B w)(hG:cX B) a :
 aK prog 95 #[aj (I ⟨p.g,0,U⟩),di a] w λe w'=>e=ak (ar (wM B a))/\K w w':=by
 have L:Hid (wM B a=(fD B.told a||fD B.st.ab a)):=aY rfl
 have hb:=bn.new w 42 #[G J a.1,G E a.2.1,G E a.2.2]
 have k1:=hb.cC
 have:=aY h
 have C:=aY λW (k:K w W)=>JU B.st a (av (dY B.st p.vl p.vq p.va)) W ⟨_,_,_,rfl,(h.df.at k).list,(h.df.at k).prom,(h.df.at k).ab⟩ Eu
 have A:=aY λW (k:K w W)=>(Ej TU underlying160 (Y9 W) (h.yJ.st k) a).1
 simp only[afK]at A
 have X:=bD h.df.now.list
 have O:=bD h.df.now.prom
 have S:=bD h.df.now.ab
 have q:=h.q
 obtain⟨g,gl,gd,gr,gt,vd,vr,vp,vh,vl,vq,va,vt,vf,vw,kr⟩:=p
 simp only at q C A X O S
 obtain⟨Al,cl,rfl⟩:=X
 obtain⟨Ap,cp,rfl⟩:=O
 obtain⟨Aa,ca,rfl⟩:=S
 generalize (eA (rT B.told) a).getD (G J 0)=vz at *
 generalize wM B a=R at *
 go_in
 go_upto_region 1 with fail
 generalize w.alloc _=N at *
 generalize Z (D w)=ga at hb⊢
 have y:=hb.cells
 have T:=λW (k:K N W)=>q W (k1.tr k)
 have z:∀W,K N W->(Instr.lookup 160 (.map (I gt)) (av #[G J a.1,G E a.2.1,G E a.2.2]) aA).run prog W=.ok (au #[vz,ar (fD B.told a)]) W:=λW k=>A.aX W (k1.tr k)
 cases ht:fD B.told a
 ·have HQ:Hid (R=fD B.st.ab a):=aY (by rw[L.aX,ht];rfl);rw[ht]at z;have qs:=aB T (aB y z);refine eQ 11 ?_;iterate 11 refine bA.i ?_
  intro V W kW hA;simp only[bU,bZ,dx,bM,Nat.reduceAdd]at hA;refine bJ.h ?_;have j:=λW' (k:K W W')=>q W' (k1.tr (kW.tr k))
  have t:=λW' (k:K W W')=>y W' (kW.tr k)
  have k2:=k1.tr kW;generalize fD B.st.ab a=Y at *;go_upto_region 2 with fail;have qs:=aB j t;refine eQ 10 ?_;iterate 7 refine bA.i ?_
  refine bA.is (ar Y) (λV W kW hp=>?_) ?_
  ·(try simp only[dE,bU,bZ,dA,dB,bM]at hp)
   simp[dC,bP,aC,hp,eH,aL,bR,bM,j,t,go_sem];apply bN (C.aX W (k2.tr kW));intro w4 k4;grind
  iterate 2 refine bA.i ?_
  exact aj3
 ·have HQ:Hid (R=aA):=aY (by rw[L.aX,ht];rfl);rw[ht]at z;have qs:=aB T (aB y z);refine eQ 11 ?_;iterate 11 refine bA.i ?_
  intro V W kW hA;simp only[bU,bZ,dx,bM,Nat.reduceAdd]at hA;refine bJ.h ?_;have j:=λW' (k:K W W')=>q W' (k1.tr (kW.tr k))
  have t:=λW' (k:K W W')=>y W' (kW.tr k)
  have k2:=k1.tr kW;go_upto_region 2 with fail;have qs:=aB j t;refine eQ 10 ?_;iterate 7 refine bA.i ?_
  refine bA.i ?_;iterate 2 refine bA.i ?_
  exact aj3
section
open Go Go.RowKit Go.Sort
def rY(l:List cB)(a:cB):Nat:=(l.findIdx? λx=>decide (x=a)).getD 0
theorem agx(a:cB):∀(l:List cB) (n i:Nat),iG a ((l.zipIdx n).map λp=>(p.1,G J p.2)) i=(l.findIdx? λx=>decide (x=a)).map λj=>(i+j,G J ((n+j:Nat):Int))
 | [],n,i=>rfl
 | x :: l,n,i=>by
  rw[List.zipIdx_cons,lT,List.findIdx?_cons];unfold iG;by_cases h:x=a
  ·simp[h]
  ·simp only[h,if_false,decide_false,Bool.false_eq_true];rw[agx a l (n+1) (i+1),Option.map_map];congr 1;funext j;simp only[Function.comp_apply,Prod.mk.injEq,Value.int.injEq,true_and];constructor
   ·omega
   ·congr 1;omega
theorem axD l a:(eA (rT l) a).getD (G J 0)=G J (rY l a:Int):=by unfold eA rT rY;rw[agx a l 0 0];cases l.findIdx? λx=>decide (x=a) <;> simp
theorem aj4{l}(h:l.Nodup) i(j:i<Q l):rY l l[i]=i:=by
 unfold rY;have:(l.findIdx? λx=>decide (x=l[i]))=I i:=by
  grind [List.findIdx?_eq_some_iff_getElem,List.pairwise_iff_getElem]
 rw[this];rfl
def IJ(l:List cB)(x y:cB):Int:=Lib.compareInt (rY l x:Int) (rY l y:Int)
theorem U2 l x y:Go.Proofs.ltOf (IJ l) x y=decide (rY l x<rY l y):=by
 unfold ltOf IJ Lib.compareInt
 grind
theorem aD5 l:SWO (Go.Proofs.ltOf (IJ l)) where
 irrefl x:=by rw[U2];simp
 trans x y z h1 h2:=by rw[U2]at *;simp at *;omega
 ntrans x y z h1 h2:=by rw[U2]at *;simp at *;omega
theorem aup{l}(h:l.Nodup){d t}(hp:d.toList.Perm l)(C:PermIn 0 d.size d t)(z:SortedIn (Go.Proofs.ltOf (IJ l)) 0 d.size t):t.toList=l:=by
 obtain⟨L,-,N⟩:=C;have B:t.toList.Perm d.toList:=by have H:(t.extract 0 d.size)=t:=bG;simp_all
 have A:=B.trans hp;refine List.Perm.eq_of_pairwise (le:=λa b=>rY l a<=rY l b) ?_ ?_ ?_ A
 ·grind [List.mem_iff_getElem,aj4]
 ·rw[List.pairwise_iff_getElem];intro i j M O y;have:=z i j (eO _) y bG;rw[U2]at this;grind
 ·grind [List.pairwise_iff_getElem,aj4]
end
section
open Go Go.RowKit Go.Sort
theorem axE a w:aK prog 256 #[G J a] w λe w'=>e=ak (ar az)/\w'=w:=by go_in;go_wp2;go_ret;exact⟨bq,rfl⟩
theorem axF a b w:aK prog 188 #[G J a,G J b] w λe w'=>e=ak (G J (Lib.compareInt a b))/\w'=w:=by
 have j:=aY λa W=>axE a W
 have HR:Hid (Lib.compareInt a b=if a<b then -1 else if b<a then 1 else 0):=aY rfl;generalize Lib.compareInt a b=R at *;go_in;go_wp2_with fail
 apply bN (j.aX a w);rintro t rfl;go_wp2_with fail
 apply bN (j.aX b t);rintro y rfl;by_cases h1:a<b
 ·have HE:Hid (R=-1):=aY aj5;exact tj
 by_cases h2:b<a
 ·have HE:Hid (R=1):=aY aj6;exact tj
 have HE:Hid (R=0):=aY aj7;exact tj
theorem fC.drewN{α enc w b}{bu:List (α×aQ)}(h:fC enc w b bu) n:fC enc (w.drewN n) b bu:=h
theorem asG told x y g gt gb A W(hg:bn W g 162 A)(hA:A[12]?=I (.map (I gt)))(hm:fC nS W gt (rT told))(hb:bn W gb 114 #[aj (I ⟨g,0,U⟩)]) :
 aK prog 290 #[di x,di y,aj (I ⟨gb,0,U⟩)] W λe w'=>e=ak (G J (IJ told x y))/\∃q S,w'=grow (W.drewN q) S:=by
 have N:=(bn.new W 42 (dZ x)).alloc (aq (dZ y) 42)
 have j:=bn.new (aU W (aq (dZ x) 42)) 42 (dZ y)
 have k1:=K.lK W (aq (dZ x) 42) (aq (dZ y) 42)
 have L:=(hg.bF k1).cell
 have cD:=(hb.bF k1).cell 0
 have C:=hm.st k1
 have X:∃os,(aU W (aq (dZ x) 42)).alloc (aq (dZ y) 42)=grow W os:=⟨_,by rw[alloc_eq_grow,alloc_eq_grow,grow_grow]⟩
 have hz:Z (D (aU W (aq (dZ x) 42)))=Z (D W)+1:=bq
 rw[hz]at j
 obtain⟨os,M⟩:=X
 have O:=aY M
 have T:=aY λW=>axF (rY told x:Int) (rY told y:Int) W
 have Y:Hid (IJ told x y=Lib.compareInt (rY told x:Int) (rY told y:Int)):=aY rfl
 have t:∀n (a:cB),(Instr.lookup 160 (.map (I gt)) (av #[G J a.1,G E a.2.1,G E a.2.2]) az).run prog (((aU W (aq (dZ x) 42)).alloc (aq (dZ y) 42)).drewN n)=.ok (G J (rY told a:Int)) (((aU W (aq (dZ x) 42)).alloc (aq (dZ y) 42)).drewN n):=λn a=>by have:=(Ej TU underlying160 (Y9 _) (C.drewN n) a).2;rw[axD]at this;exact this
 have q9:=(L 12).trans hA
 clear hm C M hg hb L hz hA k1
 have z:=N.cell
 have qy:=j.cell
 clear N j
 go_in
 go_upto_region 1 with fail
 generalize ay (ay W _) _=w2 at *
 generalize Lib.compareInt (rY told x:Int) (rY told y:Int)=R at *
 generalize B:rY told x=px at *
 generalize H:rY told y=py at *
 have DZ:=λn=>t n x
 have V:=λn=>t n y
 rw[B]at DZ
 rw[H]at V
 clear t B H
 have z:=λi=>z i
 go_quiet ((go_at_call 188;refine Calls.quiet_of_same (T.aX _)))
 go_wp2
 go_ret
 exact⟨by rw[Y.aX];rfl,_,os,by rw[O.aX];rfl⟩
end
section
open Go Go.RowKit Go.Shelf Go.Sort
shelf_lay_g SlLaysF0.n6 Slsf 6 at Tryz 314 as Tryz.aj8
theorem aCD(l:List cB) i j(y:i<Q l)(t:j<3):(l.flatMap gY)[i*3+j]?=(gY l[i])[j]?:=by
 have e:l.flatMap gY=(l.map gY).flatten:=cY
 have h:=yV 3 (l.map gY) (λcs h=>bG) i j bG t
 grind
theorem ahs d i j(t:i<d.size)(z:j<3):I (flatK gY 3 d)[i*3+j]! = (gY d[i])[j]?:=by
 have y:i*3+j<d.size*3:=aZ
 rw[get_flatK gY 3 d _ y,show (i*3+j)/3=i by omega,show (i*3+j)%3=j by omega,getElem!_pos d i t]
 grind
theorem Rv{w base g cap}{l:List cB}(h:w.ownsRow base 42 3 (F (I ⟨g,0,U⟩) (Q l) cap) (Q l) (l.flatMap gY))(M:base<=g):HoldsK gY 3 w g 0 l.toArray/\g<Z (D w)/\base<=g/\Q l<=cap:=by
 rcases h.2 with ⟨e,-⟩|⟨R,O,cur,e,hb,C,H,-,N,L⟩
 ·cases e
 ·injection e with e1 e2 e3;injection e1 with e1;injection e1 with e1;subst e1 e3;have j:bn w g 42 cur:=C;refine⟨λt B=>⟨?_,j.frozen _⟩,j.lt,hb,H⟩;rw[size_flatK,List.size_toArray]at B;have hi:t/3<Q l:=aZ;have A:t%3<3:=Nat.mod_lt _ bC;have z:t=t/3*3+t%3:=aZ;rw[j.cell];show cur[0+t]?=I _;rw[ng,show (flatK gY 3 l.toArray)[t]! = (flatK gY 3 l.toArray)[t/3*3+t%3]! by rw[<- z],id,ahs _ _ _ Nn A];have y:=aCD l (t/3) (t%3) hi A;rw[<- z,<- L,List.getElem?_take_of_lt aZ]at y;rw[<- aD,y];simp
theorem axG{w g cap d}(h:HoldsK gY 3 w g 0 d)(hg:g<Z (D w))(A:d.size<=cap):bw dJ d.toList (F (I ⟨g,0,U⟩) d.size cap) w:=by
 refine⟨_,cap,bq,⟨d.toList.map gY,RD _ _,?_,λ_=>⟨g,0,rfl,hg,λt u z=>?_⟩⟩,aZ⟩
 ·rw[Eg 3 _ λcs h=>bG];simp[dJ]
 ·have hl:t<d.size*3:=by have:=(aF.1 z).1;rw[Eg 3 _ λcs h=>bG]at this;simpa using this
  have hi:t/3<d.size:=aZ;have y:t%3<3:=Nat.mod_lt _ bC;have j:t=t/3*3+t%3:=aZ;rw[(h t Za).1,id,show (flatK gY 3 d)[t]! = (flatK gY 3 d)[t/3*3+t%3]! by rw[<- j],ahs _ _ _ hi y];have:=yV 3 (d.toList.map gY) (λcs h=>by obtain⟨a,-,rfl⟩:=List.mem_map.1 h;rfl) (t/3) (t%3) Nn y;rw[<- j,z,List.getElem?_map,aE (show t/3<Q d.toList by simpa using hi)]at this;exact this.symm
theorem agy w g m d os:bf (λk=>k=g) w (sortWorldK gY 3 w g 0 m d os):=by
 refine⟨rfl,rfl,rfl,?_,λk hk hg=>?_⟩
 ·simp[sortWorldK,grow,putRowK,putRow,mapBlock,Sort.ahead]
 ·simp only[sortWorldK,grow,putRowK,putRow,mapBlock,Sort.ahead];grind
theorem asc b t bu w(B:w.cell? ⟨t,0,U⟩=I (.map (I b)))(hm:fC nS w b bu)(A:Q bu<=1000000) :
 aK prog 313 #[.func (.func 315) #[] #[aj (I ⟨t,0,U⟩)]] w λe w'=>∃(v':aQ) (j:List cB),e=ak v'/\j.Perm (bu.map (·.1))/\w'.ownsRow (Z (D w)) 42 3 v' (Q j) (j.flatMap gY)/\K w w':=by
 have C:=aY (asa b t bu w B hm A)
 go_in
 go_wp2_with fail
 refine C.aX.mono ?_
 rintro e L⟨v',j,rfl,hp,z,k⟩
 have y:=aY hp
 have H:=aY z
 go_wp2
 go_ret
 exact⟨_,j,rfl,y.aX,H.aX,k⟩
theorem axH l:(rT l).map (·.1)=l:=by unfold rT;rw[List.map_map];exact List.zipIdx_map_fst 0 l
theorem arM{α}[Inhabited α] enc k w blk j(d dk:Array α) m os(t:HoldsK enc k w blk j d)(y:blk<Z (D w))(z:dk.size=d.size):HoldsK enc k (sortWorldK enc k w blk j m dk os) blk j dk:=holdsK_sortWorldK_c enc k w blk j d dk m os t y z
theorem asH told g gt gb M A w(hg:bn w g 162 A)(hA:A[12]?=I (.map (I gt)))(hm:fC nS w gt (rT told))(hb:bn w gb 114 #[aj (I ⟨g,0,U⟩)])
 (X:w.cell? ⟨M,0,U⟩=I (.map (I gt))) (hn:told.Nodup) (S:Q told<=1000000) :
 aK prog 288 #[.func (.func 315) #[] #[aj (I ⟨M,0,U⟩)],.func (.func 290) #[] #[aj (I ⟨gb,0,U⟩)]] w λe w'=>∃v',e=ak v'/\bw dJ told v' w'/\K w w':=by
 have C:=aY (asc gt M (rT told) w X hm (by simpa [rT]using S))
 have hlt:=hm.lt
 have C2:=aY λW (k:K w W) (l:List cB) (j cap:Nat) (z:W.ownsRow (Z (D w)) 42 3 (F (I ⟨j,0,U⟩) (Q l) cap) (Q l) (l.flatMap gY)) (O:Z (D w)<=j) (hl:Q l<=1000000) =>
  AnyQ.slices_SortFunc Tryz.aj8 3 (λW=>Tryz.isAgg42 W) (λW=>Tryz.sizeOf42 W) gY (λ_=>rfl) (λx v Y=>by simp at Y;rcases Y with rfl|rfl|rfl <;> rfl) (IJ told) (aD5 told) 290 #[aj (I ⟨gb,0,U⟩)] j 0 cap l.toArray W
   (enters_of func290 cY rfl)
   (λm os dk hs x y=>by
    have u:=agy W j m dk os;have H:=hg.lt;have dt:=hb.lt;exact asG told x y g gt gb A _ ((hg.below k H).cA u aZ) hA ((hm.st k).cA u aZ) ((hb.below k dt).cA u aZ))
   (Rv z O).1 (Rv z O).2.1 cG
 have C3:=aY λ(p:Option Addr) (cap:Nat) (fv:aQ) (W:aP)=>AnyF.slices_SortFunc_none Tryz.aj8 p cap fv W
 rw[axH]at C
 have HN:=aY hn
 have HL:=aY S
 go_in
 go_wp2_with fail
 refine C.aX.mono ?_
 rintro e L⟨v2,t,rfl,hp,z,R⟩
 have hyl:Q t<=1000000:=by rw[hp.length_eq];exact HL.aX
 have HP:=aY hp
 have N:=aY z
 rcases z.2 with ⟨rfl,O⟩|⟨j,cap,cur,rfl,hb,hc,X,h2,h3,h4⟩
 ·have ht:told=[]:=by
   have:=HP.aX.length_eq
   cases told with
   | nil=>rfl
   | cons a l=>simp at this;omega
  go_wp2_with fail
  apply bN (C3.aX _ _ _ _);rintro T rfl;go_wp2;go_ret;exact⟨_,rfl,by rw[ht];exact gN _ _,R⟩
 ·have H4:=aY (C2.aX L R t j cap N.aX hb hyl);have H:=(Rv N.aX hb).2.1;have HH:=aY (Rv N.aX hb).1;go_wp2_with fail
  apply bN H4.aX;rintro T⟨B,n,os,V,hs',rfl⟩;have u:=agy L j n B os;have hd:=aup HN.aX (d:=t.toArray) ic V hs';have hsz:B.size=Q t:=by have:=V.1;simpa using this
  have HF:=aY (axG (cap:=cap) (arM gY 3 L j 0 t.toArray B n os HH.aX H aZ) (cQ H u.size) aZ);have kF:=u.k R λk hk=>aZ
  have HKF:=aY kF;generalize sortWorldK gY 3 L j 0 n B os=T at *;go_wp2;go_ret;exact⟨_,rfl,by rw[<- hd,<- hsz];exact HF.aX,HKF.aX⟩
end
theorem lG.small{l}(h:lG l):∀t∈l,fX t.e:=λt j=>xH (h.each t j).1
def TZ(lo:Nat)(t:TypeId)(cs:Array aQ)(v:aQ)(W:aP):Prop:=∃b,v=aj (I ⟨b,0,U⟩)/\lo<=b/\bn W b t cs
theorem aBg lo t cs:∀v w w',TZ lo t cs v w->aN (Z (D w)) w w'->TZ lo t cs v w':=by rintro v w w'⟨b,e,j,h⟩ k;exact⟨b,e,j,h.bF k⟩
theorem azN{lo} t cs(W:aP)(h:lo<=Z (D W)):TZ lo t cs (aj (I ⟨Z (D W),0,U⟩)) (aU W (aq cs t)):=⟨_,rfl,h,bn.new W t cs⟩
section
variable {M:Nat->Prop} {p:pH} {B:cJ} {w:aP}
theorem cS.Oz(h:cS M p B w){l v}(j:Fx M (λW=>bw eC l v W) w):cS M { p with vt:=v } { B with bH:=l } (aV w ⟨p.g,8,U⟩ v) :=
 h.cell 8 v (h.blk.cz 8 v) ⟨rfl,rfl,rfl,rfl,rfl,rfl,rfl,rfl⟩ ⟨rfl,rfl⟩ λW u d=>⟨d.par,d.bj,d.list,d.prom,d.ab,j W u,d.ie,d.waits,d.dq⟩
theorem cS.aD6(h:cS M p B w) n:cS M p { B with calls:=n } (aV w ⟨p.g,9,U⟩ (G E n)) :=
 h.cell 9 _ (h.blk.cz 9 _) ⟨rfl,rfl,rfl,rfl,rfl,rfl,rfl,rfl⟩ ⟨rfl,rfl⟩ λW u d=>⟨d.par,d.bj,d.list,d.prom,d.ab,d.bH,d.ie,d.waits,d.dq⟩
theorem cS.aD7(h:cS M p B w){l v}(j:Fx M (λW=>bw cF l v W) w):cS M { p with vw:=v } { B with waits:=l } (aV w ⟨p.g,13,U⟩ v) :=
 h.cell 13 v (h.blk.cz 13 v) ⟨rfl,rfl,rfl,rfl,rfl,rfl,rfl,rfl⟩ ⟨rfl,rfl⟩ λW u d=>⟨d.par,d.bj,d.list,d.prom,d.ab,d.bH,d.ie,j W u,d.dq⟩
theorem cS.aD8(h:cS M p B w){l v}(j:Fx M (λW=>bw dJ l v W) w):cS M { p with vf:=v } { B with refused:=l } (aV w ⟨p.g,11,U⟩ v) :=
 h.cell 11 v (h.blk.cz 11 v) ⟨rfl,rfl,rfl,rfl,rfl,rfl,rfl,rfl⟩ ⟨rfl,rfl⟩ λW u d=>⟨d.par,d.bj,d.list,d.prom,d.ab,d.bH,j W u,d.waits,d.dq⟩
theorem cS.an7{p' B' w'}(h:cS M p B w)(hg:p'.g=p.g/\p'.gl=p.gl/\p'.gd=p.gd/\p'.gr=p.gr/\p'.gt=p.gt/\p'.vd=p.vd/\p'.vr=p.vr)(t:cS M p' B' w')(u:bf (cO p) w w'):eX M p B' w w':=by
 have j:∀k,cO p' k↔cO p k:=λk=>by
  grind [cO]
 exact⟨p',t.less (λk hk=>aJ hk) (λk hk=>hk.elim id λy=>h.sub k ((j k).1 y)),u,(by grind [pH.key]),λk hk=>aI ((j k).1 hk)⟩
theorem cE.PA{e α S}{l:List α}{v w'}(h:cE (Z (D w)) (Z (D w)) e S l v w')(j:∀k,M k->k<Z (D w)):Fx M (λW=>Go.Proofs.YtcjlnlcpodcldaaGreat.bw S l v W) w':=(h.tR.fx λ_ h=>h).less j
end
theorem WO{M p B w}(h:cS M p B w){l v} c(t:Fx M (λW=>bw eC l v W) w) :
 aK prog 172 #[aj (I ⟨p.g,0,U⟩),v,G J c] w λe w'=>e=ak (G J (fV B (l,c)).2)/\eX M p (fV B (l,c)).1 w w':=by
 have C:Hid (fV B (l,c)=if c=0 then ({ B with bH:=l },0)else (B,c)):=aY rfl
 generalize fV B (l,c)=R at *
 have j:=aY (h.an7 (p':={ p with vt:=v }) ⟨rfl,rfl,rfl,rfl,rfl,rfl,rfl⟩ (h.Oz t) (bf.dc (X:=cO p) (aI rfl) 8 v))
 have y:=aY (h.n (K.rf w))
 have q:=h.blk.cell
 have z:=h.blk.frozen
 obtain⟨A,cc,rfl⟩:=bD t.now
 obtain⟨g,gl,gd,gr,gt,vd,vr,vp,vh,vl,vq,va,vt,vf,vw,kr⟩:=p
 simp only at q z j y
 go_in
 by_cases hc:c=0
 ·subst hc;have HR:Hid (R=({ B with bH:=l },0)):=aY ic;go_wp2;go_ret;exact⟨ib,by rw[HR.aX];exact j.aX⟩
 ·have HR:Hid (R=(B,c)):=aY (by rw[C.aX,bO hc]);have:(c==0)=false:=Ev;go_wp2;go_ret;exact⟨ib,by rw[HR.aX];exact y.aX⟩
theorem WQ{M p B w}(h:cS M p B w)(hG:cX B) c(f:Nat) cs j(hf:∀args W,(callFunc f args).run prog W=.ok (.enter f args) W)
 (an8:∀W,K w W->aK prog f (#[di (qR B)]++cs) W λe w'=>∃v',e=ak (au #[v',G J j.2])/\cE (Z (D W)) (Z (D W)) 178 eC j.1 v' w'/\K W w') :
 aK prog 96 #[aj (I ⟨p.g,0,U⟩),G J c,.func (.func f) #[] cs] w λe w'=>e=ak (au #[di (jR B c j).2.1,G J (jR B c j).2.2])/\eX M p (jR B c j).1 w w':=by
 have HK:Hid (jR B c j=if AZ B c then (if j.2=0 then ({ B with bH:=j.1,calls:=B.calls+1 },qR B,0)else (B,(0,0,0),j.2))else (B,(0,0,0),200)):=aY rfl
 generalize jR B c j=R at *
 have H:=aY h
 have HX:=aY λk hk=>h.low k (h.sub k hk)
 have HM:=aY h.low
 have hcl:=hG.calls
 have C1:=aY λW (k:K w W)=>ae9 (h.st k) hG c
 have C2:=aY an8
 have q:=h.q
 have hr:=bn.new w 42 #[G J 0,G E 0,G E 0]
 have k0:=hr.cC
 generalize AZ B c=HB at *
 generalize kO:qR B=y at *
 obtain⟨A,fF⟩:∃n,n=B.calls+1:=⟨_,rfl⟩
 have Bz:Hid (y=(B.me,B.st.life,A)):=aY (by rw[fF];exact kO.symm)
 have hw:E.wrap ((B.calls:Int)+1)=(A:Int):=by rw[IntWalk.u64_in _ (by omega),fF];omega
 have Jk:=aY fF
 clear fF hcl
 clear h hG an8 kO
 go_in
 go_upto_region 1 with fail
 generalize w.alloc _=w1 at *
 generalize gL:Z (D w)=t at hr⊢
 have Jj:=aY gL
 clear gL
 go_wp2_with fail
 refine (C1.aX w1 k0).mono ?_
 rintro e w2⟨rfl,k2⟩
 have Y:=hr.bF k2
 have cT:=k0.tr k2
 clear C1 hr
 cases U3:HB
 ·have HR:Hid (R=(B,(0,0,0),200)):=aY (by rw[HK.aX,U3];rfl);have qr:=Y.cell;have zr:=Y.frozen;clear HK C2 q;go_wp2;have tO:bn (ax (ax (ax w2 _ _) _ _) _ _) t 42 #[G J 0,G E 0,G E 0]:=((Y.cz 0 (G J 0)).cz 1 (G E 0)).cz 2 (G E 0);have kS:=K.set (K.set (K.set cT (r:=t) Zb 0 (G J 0)) (r:=t) Zb 1 (G E 0)) (r:=t) Zb 2 (G E 0);clear qr zr Y;generalize ax (ax (ax w2 _ _) _ _) _ _=W9 at *;have e9:=tO.cell;try rw[jt]
  refine aM (v:=au #[di (0,0,0),G J 200]) Zc rfl ?_;exact⟨Ie,by rw[HR.aX];exact H.aX.n kS⟩
 have Ja:Hid (R=if j.2=0 then ({ B with bH:=j.1,calls:=B.calls+1 },y,0)else (B,(0,0,0),j.2)):=aY (by rw[HK.aX,U3,bT rfl])
 have q2:=λW (k:K w2 W)=>q W (cT.tr k)
 subst U3
 clear HK q
 obtain⟨g,gl,gd,gr,gt,vd,vr,vp,vh,vl,vq,va,vt,vf,vw,kr⟩:=p
 simp only at q2
 go_upto_region 5 with fail
 have qs:=aB q2 hw
 refine eQ 16 ?_
 iterate 15 refine bA.i ?_
 refine bA.op (TZ (Z (D w2)) 42 #[G J 0,G E 0,G E 0]) (aBg _ _ _) (λV W kW hp=>?_) ?_
 ·simp[dC,bP,aC,eH,aL,bR,go_sem];exact⟨azN _ _ _ kW.size,(K.rf W).al _⟩
 clear qs
 intro V W kW hA
 simp only[bU,bZ,dx,bM,Nat.reduceAdd]at hA
 obtain⟨e0,e1,e2,e3,e4,e5,e6,e7,e8,e9,iV,tV,zY,Fh,LH,⟨b8,uT,sB,uU⟩,-⟩:=hA
 have O:=uU.cell
 have z8:=uU.frozen
 obtain⟨S,U4⟩:∃S,S=ax (ax (ax W ⟨b8,0,U⟩ (G J B.me)) ⟨b8,1,U⟩ (G E B.st.life)) ⟨b8,2,U⟩ (G E A):=⟨_,rfl⟩
 refine bJ.skip S rfl (by rw[U4];simp[bP,aC,LH,uT,cK,aL,bR,O,z8,go_sem]) ?_
 refine bJ.nil ?_
 simp only[iu,Act.put,ue,tC,tB,Nat.reduceAdd,cK,e0,e1,e2,e3,e4,e5,e6,e7,e8,e9,iV,tV,zY,Fh,LH,uT]
 have LI:bn S b8 42 #[G J y.1,G E y.2.1,G E y.2.2]:=by rw[U4,Bz.aX];exact ((uU.cz 0 (G J B.me)).cz 1 (G E B.st.life)).cz 2 (G E A)
 have k8:K w2 S:=by rw[U4];exact K.set (K.set (K.set kW sB 0 _) sB 1 _) sB 2 _
 have vY:=Y.bF k8
 have L:=cT.tr k8
 have HB8:=aY sB
 have C3:=aY (C2.aX S L)
 have HW:=aY hw
 clear O z8 uU Y sB U4 e0 e1 e2 e3 e4 e5 e6 e7 e8 e9 iV tV zY Fh LH uT kW q2 hw C2 k8
 have O:=LI.cell
 go_wp2_with fail
 refine C3.aX.mono ?_
 rintro e z⟨v4,rfl,fq,C⟩
 have:=Jj.aX
 have lq:=(L.tr C).size
 have:=cQ vY.lt C.size
 have hB4:cS (λk=>M k∨k=t) _ B z:=H.aX.far (X:=λ_=>False) (bf.bS (L.tr C) _) (λk hk=>hk.elim) (λk hk=>hk.elim) (λk hk N=>N.resolve_right aZ) (λk hk=>aI (H.aX.sub k hk)) (λk hk=>hk.elim (λh=>cQ (HM.aX k h) lq) λe=>aZ)
 have kU:Fx (λk=>M k∨k=t) (λW=>bw eC j.1 v4 W) z:=fq.PA λk hk=>hk.elim (λh=>cQ (HM.aX k h) L.size) λe=>e▸vY.lt
 have PB:=LI.bF C
 have T:=vY.bF C
 have zZ:=L.tr C
 obtain⟨A4,c4,rfl⟩:=bD kU.now
 clear C3 fq C O LI vY L
 by_cases hc:j.2=0
 rotate_left
 ·have HR:Hid (R=(B,(0,0,0),j.2)):=aY (by rw[Ja.aX,bO hc]);have:(j.2 != 0)=true:=Ev;have qr:=T.cell;have zr:=T.frozen;clear hB4 kU PB Ja;go_wp2;have tO:bn (ax (ax (ax z _ _) _ _) _ _) t 42 #[G J 0,G E 0,G E 0]:=((T.cz 0 (G J 0)).cz 1 (G E 0)).cz 2 (G E 0);have kS:=K.set (K.set (K.set zZ (r:=t) aZ 0 (G J 0)) (r:=t) aZ 1 (G E 0)) (r:=t) aZ 2 (G E 0);clear qr zr T;generalize ax (ax (ax z _ _) _ _) _ _=W9 at *;have e9:=tO.cell;try rw[jt]
  refine aM (v:=au #[di (0,0,0),G J j.2]) Zc rfl ?_;exact⟨Ie,by rw[HR.aX];exact H.aX.n kS⟩
 ·have HR:Hid (R=({ B with bH:=j.1,calls:=B.calls+1 },y,0)):=aY (by rw[Ja.aX,bT hc]);have q4:=hB4.blk.cell;have z4:=hB4.blk.frozen;have GK:cS (λk=>M k∨k=t) ⟨g,gl,gd,gr,gt,vd,vr,vp,vh,vl,vq,va,F A4 (Q j.1) c4,vf,vw,kr⟩ { B with bH:=j.1,calls:=A } ((aV z ⟨g,8,U⟩ (F A4 (Q j.1) c4)).setCell ⟨g,9,U⟩ (G E A)):=(hB4.Oz kU).aD6 A;have u5:bf (λk=>k=g) z ((aV z ⟨g,8,U⟩ (F A4 (Q j.1) c4)).setCell ⟨g,9,U⟩ (G E A)):=(bf.dc (X:=λk=>k=g) rfl 8 _).tr (bf.dc (X:=λk=>k=g) rfl 9 _);have:=HX.aX g (aI rfl);have:=HB8.aX;have:=cT.size;have hy5:=PB.cA u5 aZ;have j0:=T.cA u5 aZ;have hw:=HW.aX;rw[hc];clear hB4 kU hc Ja PB T;simp only at q4 z4;go_upto_region 11 with fail;generalize (aV z ⟨g,8,U⟩ _).setCell ⟨g,9,U⟩ _=w5 at *;clear q4 z4 hw;have O:=hy5.cell;have qr:=j0.cell;have zr:=j0.frozen;go_wp2;have tO:bn (ax (ax (ax w5 _ _) _ _) _ _) t 42 #[G J y.1,G E y.2.1,G E y.2.2]:=((j0.cz 0 (G J y.1)).cz 1 (G E y.2.1)).cz 2 (G E y.2.2);have u9:bf (λk=>k=t) w5 _:=((bf.dc (X:=λk=>k=t) rfl 0 (G J y.1)).tr (bf.dc (X:=λk=>k=t) rfl 1 (G E y.2.1))).tr (bf.dc (X:=λk=>k=t) rfl 2 (G E y.2.2));clear qr zr j0 O;generalize ax (ax (ax w5 _ _) _ _) _ _=W9 at *;have e9:=tO.cell;have:=u5.size;have:=u9.size;have xy:=GK.far (M':=M) u9 (λk hk=>aJ hk) (λk hk N=>by have:=HX.aX k N;omega) (λk hk N=>aI N) (λk hk=>H.aX.sub k hk) (λk hk=>by have:=HM.aX k hk;omega);have hU:bf (cO ⟨g,gl,gd,gr,gt,vd,vr,vp,vh,vl,vq,va,vt,vf,vw,kr⟩) w W9:=((bf.bS zZ _).tr (u5.more λk hk=>aI hk)).iA u9 λk hk N=>aZ
  have U6:=aY (H.aX.an7 (p':=⟨g,gl,gd,gr,gt,vd,vr,vp,vh,vl,vq,va,F A4 (Q j.1) c4,vf,vw,kr⟩) ⟨rfl,rfl,rfl,rfl,rfl,rfl,rfl⟩ xy hU);try rw[jt]
  refine aM (v:=au #[di y,G J 0]) Zc rfl ?_;exact⟨Ie,by rw[HR.aX,<- Jk.aX];exact U6.aX⟩
theorem azO{Y base v l W}(h:W.ownsRow base 42 3 v (Q l) (l.flatMap gY)):bK Y base 42 dJ l v W :=
 ⟨l.map gY,by rw[<- List.flatMap_def];exact h,bq,λw' _=>RD l w'⟩
theorem afL{v l W}(h:bw dJ l v W):∃A c,v=F A (Q l) c/\Reads W (Z (D W)) 3 A (Q l) (l.flatMap gY):=by
 obtain⟨A,c,rfl,⟨css,t,j⟩,-⟩:=h;have e:css=l.map gY:=by apply List.ext_getElem (by simpa using t.1);intro i y z;rw[List.getElem_map];exact t.2 i bG y
 rw[e,<- List.flatMap_def]at j;exact⟨A,c,rfl,j⟩
theorem atl{M p B w}(h:cS M p B w)(A:cX B)(hn:B.told.Nodup) :
 aK prog 237 #[aj (I ⟨p.g,0,U⟩)] w λe w'=>∃v',e=ak v'/\bK (λk=>k<Z (D w)) (Z (D w)) 42 dJ (EE B) v' w'/\K w w':=by
 have HR:Hid (EE B=B.st.ab++B.told):=aY rfl
 have:=A.dk.len
 have iO:=A.told
 have q:=h.q
 have hb:=bn.new w 114 #[aj (I ⟨p.g,0,U⟩)]
 have k1:=hb.cC
 have z:=aY λW=>auh p.gt W
 have S:=aY λW (k:K w W) gb B1 (hb:bn W gb 114 #[aj (I ⟨p.g,0,U⟩)]) (h1:W.cell? ⟨B1,0,U⟩=I (.map (I p.gt)))=>asH B.told p.g p.gt gb B1 _ W (h.blk.bF k) rfl (h.yJ.st k) hb h1 hn iO
 have t:=aY λW (k:K w W)=>afL (h.df.at k).ab
 generalize EE B=R at *
 obtain⟨g,gl,gd,gr,gt,vd,vr,vp,vh,vl,vq,va,vt,vf,vw,kr⟩:=p
 simp only at q hb k1 z S t
 obtain⟨Aa,ca,rfl,-⟩:=t.aX w (K.rf w)
 clear h A hn
 go_in
 go_upto_region 1 with fail
 generalize w.alloc _=j at *
 generalize hgb:Z (D w)=gb at hb⊢
 clear hgb
 have C:=hb.cells j (K.rf _) 0
 go_wp2_with fail
 apply bN (z.aX j)
 rintro w2 rfl
 have O:=bn.new j 160 #[.map (I gt)]
 have L:=O.cC
 have T:=hb.bF L
 have mY:=k1.tr L
 generalize ay j _=w2 at *
 have Y:=aY (S.aX w2 mY gb (Z (D j)) T (O.cell 0))
 clear z S hb C O L
 go_wp2_with fail
 apply tH Y.aX mY
 intro v3 y hv3 k3 H
 have dy:=T.bF k3
 have C:=dy.cells y (K.rf _) 0
 obtain⟨At,ct,rfl,GF⟩:=afL hv3
 obtain⟨Aa2,ca2,N,hra⟩:=t.aX y H
 injection N with N _ e3
 subst N e3
 have C5:=aY (aeN Aa (Q B.st.ab) ca _ y hra (Sn _) aZ)
 have US:=aY λW (k:K y W)=>(GF.below k (bL _)).more k.size
 clear Y t hra GF hv3 T
 go_wp2_with fail
 apply dD C5.aX
 rintro v4 w4⟨X,k4⟩
 have V:=US.aX w4 k4
 have uK:=H.tr k4
 have hz:=H.size
 have lq:=uK.size
 clear C5 US C
 go_wp2_with (at_builtin;refine j9 rfl _ _ 53 rfl (Z (D w)) 42 _ 3 24 wg _ (Q B.st.ab) _ rfl (oy hz X) _ At (Q B.told) ct _ rfl V (Sn _) ?p1 lq ?_)
 case p1=>omega
 intro v9 w9 oP _ _ cN
 have HF:=aY (show bK (λk=>k<Z (D w)) (Z (D w)) 42 dJ R v9 w9 by
  rw[HR.aX];refine azO ?_;rw[eU,List.flatMap_append];exact oP)
 have kF:K w w9:=uK.trans cN
 clear oP cN X V
 go_wp2
 go_ret
 exact⟨_,rfl,HF.aX,kF⟩
theorem axI(l:List fT)(t:fT):kY (l++[t])=if t.asked=aA/\Q (kY l)<4 then kY l++[t.e]else kY l:=by
 unfold kY;rw[List.filter_append,List.map_append,List.take_append];generalize ((l.filter fT.asked).map fT.e)=X;rcases t with ⟨e,b⟩;cases b
 ·simp
 ·simp only[qN,true_and,List.filter_cons,if_true,List.filter_nil,lT,List.map_nil];split
  ·rename_i h;rw[iw (l:=[e]) cG]
  ·rename_i h;rw[show 4-Q X=0 by omega,TG,List.append_nil]
theorem aBh:(prog.info? 128).map (λi=>(i.zero,i.size,i.bytes))=I (I (av gE),8,96):=by rfl
theorem aD9:ir prog 59 128 (av gE) 8 96:=⟨underlying59,aBh,rfl,bC⟩
theorem avK l v w(h:bw eC l v w)(hs:∀t∈l,fX t.e)(hn:Q l<=1000000) :
 aK prog 231 #[v] w λe w'=>∃v',e=ak v'/\cE (Z (D w)) (Z (D w)) 128 cF (kY l) v' w'/\K w w':=by
 obtain⟨A,c,rfl,hl,hc⟩:=h
 have HS:=aY hs
 have kk:=K.rf w
 go_in
 go_wp2_with fail
 go_loopw [3,5,8] (fun o _ i W=>∃j:Nat,j<=Q l/\i=G J j/\cE (Z (D w)) (Z (D w)) 128 cF (kY (l.take j)) o W/\K w W) (fun _ _ i _=>Q l-(aO i).toNat)
 case atStart=>exact⟨0,aZ,rfl,by simpa [kY]using cE.nil _ _ _ _ _,kk⟩
 case round =>
  obtain⟨j,hj,rfl,hO,kr⟩:=hrel;by_cases hlt:j<Q l
  ·have cd:(j:Int)<Q l:=aZ;obtain⟨b1,off,cs,rfl,hcl,hrl,d0,d⟩:=eN hl j hlt bC;have X:Hid (kY (l.take (j+1))=if l[j].asked=aA/\Q (kY (l.take j))<4 then kY (l.take j)++[l[j].e]else kY (l.take j)):=aY (by rw[ix hlt,axI]);have hst:=HS.aX _ (dG hlt);generalize l[j]=t at *;obtain⟨vf,ve,rfl,hf,he⟩:=hrl w (K.rf w);obtain⟨B,N,rfl⟩:=dK hf;obtain⟨M,O,rfl⟩:=bD he;have HE:Hid (∀W,K w W->fc t.e (av (bQ t.e (F B (Q t.e.f) N) (F M (Q t.e.es) O))) W):=aY λW k=>⟨_,_,rfl,fJ _ _ _ _ hf k,cH he k⟩
   have d0:∀W,K w W->W.cell? ⟨b1,off+j*9,U⟩=I (G J t.e.kind):=d0;have d:∀W,K w W->∀i,i<9->W.cell? ⟨b1,off+j*9+i,U⟩=(jm t (F B (Q t.e.f) N) (F M (Q t.e.es) O))[i]?:=λW k i hi=>(d W k i hi).trans aD
   have iO:Q (kY (l.take j))<=4:=by unfold kY;rw[qN];omega
   generalize kY (l.take j)=L at *;obtain⟨Ao,co,rfl,-⟩:=hO.slice;have Y:=bn.new wr 178 (jm t (F B (Q t.e.f) N) (F M (Q t.e.es) O));have kA:=Y.cC;go_upto_region 5 with fail;have fu:=hO.st kA;generalize wr.alloc _=w5 at *;generalize Z (D wr)=g5 at Y⊢;generalize F B (Q t.e.f) N=vf at *;generalize F M (Q t.e.es) O=ve at *;have k5:=kr.tr kA;have q:=Y.cell;have oQ:=fu.blk;rcases t with ⟨y,ta⟩;cases ta
   ·have HQ:Hid (kY (l.take (j+1))=L):=aY (by rw[X.aX];simp);exact aj9
   ·by_cases h4:Q L<4;rotate_left
    ·have h4i:¬(Q L:Int)<4:=aZ;have HQ:Hid (kY (l.take (j+1))=L):=aY (by rw[X.aX,bO (λh=>h4 h.2)]);exact aj9
    ·have h4i:(Q L:Int)<4:=aZ;have HQ:Hid (kY (l.take (j+1))=L++[y]):=aY (by rw[X.aX,bT ⟨rfl,h4⟩]);go_wp2_with fail
     apply dD (MA y _ w5 (HE.aX _ k5) hst);rintro v6 z⟨ho,V⟩;have mo:=fu.st V;obtain⟨qC,qD,rfl,hF,hV⟩:=ho;have qh:=k5.tr V;obtain⟨css,hown,hcl,oR⟩:=mo;have BL:=V.size;have tQ:=k5.size;have HF:Hid (∀w',bV (Z (D w5)) U z w'->fQ y.f qC w'/\bw dS y.es qD w'):=aY λw' u=>⟨yZ (hF.up u),(hV.up (bL _) u).bw⟩
     obtain⟨C,S,rfl⟩:=dK (yZ hF);obtain⟨R,H,rfl⟩:=bD hV.bw;have T:=K.new z (aq (bQ y (F C (Q y.f) S) (F R (Q y.es) H)) 128);have hbase:Z (D w)<=Z (D (aU z (aq (bQ y (F C (Q y.f) S) (F R (Q y.es) H)) 128))):=by have:=T.size;omega
     have O7:(Q L+1)*97<=140737488355328:=aZ;go_wp2_with (at_builtin;refine j9 rfl _ _ 59 rfl (Z (D w)) 128 _ 8 96 aD9 _ _ _ rfl (sK hown _) (Z (D z)+1) _ 1 1 (aaU y (F C (Q y.f) S) (F R (Q y.es) H)) rfl ?c1 ?c2 ?c3 hbase ?_)
     case c1=>exact Reads.new z (aaU y (F C (Q y.f) S) (F R (Q y.es) H)) 128 8 1 rfl
     case c2=>have h0:=HF.aX z (bV.rf _ _ _);exact cF.one (x:=y) (w:=z) ⟨_,_,rfl,h0.1,h0.2⟩
     case c3=>omega
     intro v9 w9 jc dF fO cN;have k9:=(qh.tr T).trans cN;have cR:Hid (cE (Z (D w)) (Z (D w)) 128 cF (kY (l.take (j+1))) v9 w9):=by
      rw[HQ.aX];exact cE.snoc hcl (λw' u=>oR w' (bV.tr (bV.bS T _ _) u)) jc dF vE
       (λw' u=>by
        have:=HF.aX w' ((bV.tr (bV.bS T _ _) u).more aZ (λk hk _ e=>bG));exact⟨_,_,rfl,this.1,this.2⟩)
     go_wp2;go_roundw
     case rel=>exact⟨j+1,aZ,cU,cR.aX,k9⟩
     case measure=>simp[aO];omega
  ·have cd:¬(j:Int)<Q l:=aZ;exact aka
theorem afM{P ρ w} s x T ty t g o cur cells(hs:ρ s=aj (I ⟨g,o,U⟩))(hx:ρ x=av cells)(hb:bn w g t cur)
 (j:(P.info? T).map (·.size)=I cells.size) (A:o+cells.size<=cur.size) (z:∀u∈cells.toList,u.oneCell'=aA) :
 ∃w',(aL ρ (bR (.store T s x) ty)).run P w=.ok .skip w'/\bn w' g t (cur.toList.take o++cells.toList++cur.toList.drop (o+cells.size)).toArray/\w.grownBy w' (I g):=by
 have hst:=run_storeCells_at P g o t cells.toList 0 cur w hb aZ z
 simp only[Nat.add_zero,Array.length_toList]at hst
 refine⟨_,?_,setRow_heap w g cur _ t _ hb,⟨rfl,rfl,rfl,bq,λk hk y=>setRow_other w g k _ (λe=>y FO)⟩⟩
 cases hq:P.info? T with
 | none=>simp[hq]at j
 | some i => exact akb
theorem axJ(l:List fT)(a:cB):vG l a=match lI l a with|none=>(ya,az)|some k=>match l[k]? with|some t=>(t,aA)|none=>(ya,az):=by
 cases h:lI l a with
 | none=>exact avx (afE h)
 | some k =>
  grind [MN,aF,pV,List.find?_eq_some_iff_getElem,aE,vG]
abbrev GL:Array aQ:=#[G J 0,G J 0,G E 0,G E 0,G J 0,G E 0,F U 0 0,F U 0 0,ar az]
theorem auq l a v w(h:bw eC l v w)(hs:∀s∈l,fX s.e)(hlen:Q l<=1000000) :
 aK prog 94 #[v,di a] w λe w'=>∃u,e=ak (au #[u,ar (vG l a).2])/\Pd (vG l a).1 u w'/\K w w':=by
 have C2:=aY λW (kW:K w W)=>Rh l a v W (cH h kW) hlen
 obtain⟨A,c,rfl,hl,hc⟩:=h
 have hx:=(bn.new w 42 #[G J a.1,G E a.2.1,G E a.2.2]).alloc (aq GL 178)
 have hr:=bn.new (aU w (aq #[G J a.1,G E a.2.1,G E a.2.2] 42)) 178 GL
 have k1:=K.lK w (aq #[G J a.1,G E a.2.1,G E a.2.2] 42) (aq GL 178)
 have hz:Z (D (aU w (aq #[G J a.1,G E a.2.1,G E a.2.2] 42)))=Z (D w)+1:=bq
 rw[hz]at hr
 have HI:Hid (uh l a=match lI l a with|some k=>(k:Int)|none=>-1):=aY rfl
 have HC:=aY (axJ l a)
 have HO:=aY λk h=>@MN l a k h
 generalize vG l a=R at *
 go_in
 go_upto_region 1 with fail
 generalize ay (ay w _) _=w1 at *
 have q:=hx.cell
 go_wp2_with fail
 apply dP (C2.aX w1 k1) k1
 intro N k2 cT
 have y:=hr.bF k2
 have hrg:Z (D w)<=Z (D w)+1:=aZ
 generalize Z (D w)+1=j at *
 generalize uh l a=Y at *
 cases ho:lI l a with
 | none => obtain rfl:Y=-1:=CY;have HQ:Hid (R=(ya,az)):=aY NI;have q:=y.cell;have z:=y.frozen;go_wp2;have eV:=((((((((y.cz 0 (G J 0)).cz 1 (G J 0)).cz 2 (G E 0)).cz 3 (G E 0)).cz 4 (G J 0)).cz 5 (G E 0)).cz 6 (F U 0 0)).cz 7 (F U 0 0)).cz 8 (ar az);have e9:=eV.cell;refine aM (v:=au #[av GL,ar az]) akc rfl ?_;refine⟨av GL,by rw[HQ.aX],by rw[HQ.aX];exact aj1 ya rfl rfl _,?_⟩;exact ((((((((cT.setCell Ew _).setCell Ew _).setCell Ew _).setCell Ew _).setCell Ew _).setCell Ew _).setCell Ew _).setCell Ew _).setCell Ew _
 | some k =>
  obtain rfl:Y=(k:Int):=CY;obtain⟨t,h1,-⟩:=HO.aX k ho;have HQ:Hid (R=(t,aA)):=aY Y8;obtain⟨hk,xv⟩:=aF.1 h1;have gJ:(k:Int)<Q l:=aZ;obtain⟨b1,T,cs,rfl,hcl,hrl,M,d⟩:=eN hl k hk bC;have hst:=hs _ (dG hk);rw[xv]at hrl hst;obtain⟨vf,ve,rfl,hf,he⟩:=hrl w (K.rf w);have HE:Hid (∀W,K w W->fc t.e (av (bQ t.e vf ve)) W):=aY λW k=>⟨_,_,rfl,fJ _ _ _ _ hf k,cH he k⟩
  have M:∀W,K w W->W.cell? ⟨b1,T+k*9,U⟩=I (G J t.e.kind):=M;have d:∀W,K w W->∀i,i<9->W.cell? ⟨b1,T+k*9+i,U⟩=(jm t vf ve)[i]?:=λW kk i hi=>(d W kk i hi).trans aD
  go_upto_region 4 with fail;obtain⟨gb,hgb⟩:∃gb,gb=Z (D N):=⟨_,rfl⟩;have L:j<gb:=by rw[hgb];exact y.lt
  have B:∀W,bf (λk=>k=j) N W->K w W:=λW u=>u.k cT λk e=>e▸hrg
  have qs:=aB (λW u=>M W (B W u)) (aB (λW u=>d W (B W u)) gJ);refine Mw 14 [12] (λW=>bf (λk=>k=j) N W) (λW W'=>W.grownBy W' (I j)) (λk _ W=>∃cs,bn W j 178 cs/\(k=0/\cs=GL∨k≠0/\∃vf ve,cs=jm t vf ve/\Fx (λk=>k<gb) (λW=>eC.rel t (jm t vf ve).toList W) W)) [([],[]),([],[]),([0,1],[(13,0),(14,1)]),([2],[(15,2)]),([3],[(16,3)]),([4],[(17,4)]),([],[]),([],[]),([6,7],[(19,6),(20,7)]),([8],[(21,8)]),([9],[(22,9)]),([5,10],[(18,5),(23,10)]),([11],[(24,11)]),([],[])] 25
   (λ_ _ h k=>h.tr (bf.bS k _)) (λ_ _ h=>Ef h _) (λk vs W W' ⟨cs,h1,h3⟩ kW=>⟨cs,h1.bF kW,h3.imp id λ⟨h,vf,ve,e,f⟩=>⟨h,vf,ve,e,f.k kW⟩⟩) (bf.rf _ _) (λ_=>⟨GL,y,aI ⟨rfl,rfl⟩⟩) ?_
  iterate 5 refine bA.i ?_
  refine bA.c (Gk gb t.e) (λv w w' ⟨vf,ve,e,h⟩ k=>⟨vf,ve,e,h.up (bf.gy (X:=λb=>b=j) k λ_ e=>by cases e;rfl) λk e=>e▸L⟩) (λW u=>(MA t.e _ W (HE.aX _ (B W u)) hst).mono λe w' ⟨v,e1,ho,k1⟩=>⟨v,e1,aaw (by rw[hgb];exact u.size) ho,k1⟩) ?_;iterate 5 refine bA.i ?_
  refine bA.op (Pw gb t) (λv w w' ⟨vf,ve,e,h⟩ k=>⟨vf,ve,e,h.up (bf.gy (X:=λb=>b=j) k λ_ e=>by cases e;rfl) λk e=>e▸L⟩) (λV W kW hp=>?_) ?_
  ·exact Y5
  refine bA.s ?_;refine bA.i ?_;refine⟨⟨⟨_,_,rfl,rfl,rfl,λV W H C hp=>?_⟩,trivial⟩,λV W H C hA=>?_⟩
  ·simp only[dE,bU,bZ,dA,dB,bM]at hp;obtain⟨⟨LJ,LK,e3,hF⟩,-⟩:=hp;obtain⟨_,hb,⟨-,rfl⟩|⟨h,-⟩⟩:=C
   ·change lO _ _ ((aL (bP [(24,11)] _ V) (bR (.store 178 (.tmp 4) (.tmp 24)) 0)).run _ _);generalize hA:bP [(24,11)] _ V=ρ;obtain⟨w'',hrun,hb2,gg⟩:=afM (P:=prog) (ρ:=ρ) (.tmp 4) (.tmp 24) 178 0 178 j 0 GL (jm t LJ LK) (by rw[<- hA];rfl) (by rw[<- hA];exact e3) hb dz bq (eC.one (x:=t) (w:=W) hF.now);have S:bf (λk=>k=j) W w'':=bf.gy gg λ_ e=>by cases e;rfl
    rw[hrun];exact⟨H.tr S,gg,⟨_,hb2,aJ ⟨bC,LJ,LK,rfl,hF.up S λk e=>e▸L⟩⟩,trivial⟩
   ·exact absurd rfl h
  simp only[bU,bZ,dx,bM,Nat.reduceAdd]at hA;obtain⟨_,cN,⟨h,-⟩|⟨-,O,LM,rfl,hF⟩⟩:=C
  ·cases h
  refine bJ.h ?_;have kW:=B W H;have HW:Hid (Pd t (av (jm t O LM)) W):=aY (by
   obtain⟨vf,ve,e,h1,h2⟩:=hF.now;simp at e;obtain⟨rfl,rfl⟩:=e;exact⟨_,_,rfl,h1,h2⟩)
  have e9:=cN.cell;go_wp2;refine aM (v:=au #[av (jm t O LM),ar aA]) akc rfl ?_;exact⟨_,by rw[HQ.aX],Ic,kW⟩
theorem aur l a j v u w(h:bw eC l v w)(hu:iT j u w)(hl:∀s∈l,fX s.e)(hlf:∀s∈l,dQ s.e)(mE:Q j<=1000000)(T1:∀x∈j,ny x)(hlen:Q l<=1000000) :
 aK prog 173 #[v,di a,u] w λe w'=>∃v',e=ak (au #[v',G J (jq l a j).2])/\(∀W,bV (Z (D w)) U w' W->bw eC (jq l a j).1 v' W)/\K w w':=by
 have C1:=aY λW (kW:K w W)=>Mx l v W (cH h kW) hl hlen
 have C2:=aY λW (kW:K w W)=>Xa l a v W (cH h kW) hlen
 have C3:=aY λW (kW:K w W)=>afC (nL _ _ _ _ hu kW)
 obtain⟨A,d,rfl,sA,-⟩:=h
 have HU:Hid (∀W,K w W->iT j u W):=aY λW k=>nL _ _ _ _ hu k
 obtain⟨Ae,ce,rfl⟩:=tc hu
 clear hu
 have hx:=bn.new w 42 #[G J a.1,G E a.2.1,G E a.2.2]
 have k1:=hx.cC
 have HI:Hid (Dh l a=match ui l a with|some k=>(k:Int)|none=>-1):=aY rfl
 have HC:Hid (jq l a j=match ui l a with|none=>(l,170)|some k=>match l[k]? with|none=>(l,170)|some t=>if iC j=az then (l,40)else if 8<=Q t.e.es then (l,171)else if ur (oF t.e j)then (l,172)else (l.set k ⟨oF t.e j,t.asked⟩,0)):=aY rfl
 have HO:=aY λk h=>@Rb l a k h
 have HEV:=aY T1
 clear T1
 generalize jq l a j=R at *
 have q:=hx.cells
 go_in
 go_wp2
 go_step3
 go_wp2_with fail
 generalize w.alloc _=w1 at *
 apply tH (C1.aX w1 k1) k1
 intro u8 w2 y k2 cT
 generalize Dh l a=ah at *
 replace q:=hx.bF k2
 replace q:=bn.cell q
 go_wp2_with fail
 apply bN (C2.aX w2 cT)
 intro w3 k3
 replace cT:=cT.tr k3
 replace y:=y.st k3
 have oV:=k1.size
 have Fg:=aY λ(W W':aP) (h:cE (Z (D w1)) (Z (D w1)) 178 eC l u8 W) (u:bV (Z (D w)) U W W')=>(h.up (bL _) (u.more oV (λk _ h=>h))).bw
 clear C1 C2 k3 k2 hx q
 cases ho:ui l a with
 | none =>
  obtain rfl:ah=-1:=CY;have HQ:Hid (R=(l,170)):=aY NI;have HW:=aY λW u=>Fg.aX _ W y u
  clear y ho HI HC HO;go_wp2;go_step3;exact Ko
 | some k =>
  obtain rfl:ah=(k:Int):=CY;obtain⟨t,h1,-⟩:=HO.aX k ho;have HR:Hid (R=if iC j=az then (l,40)else if 8<=Q t.e.es then (l,171)else if ur (oF t.e j)then (l,172)else (l.set k ⟨oF t.e j,t.asked⟩,0)):=aY Y8;obtain⟨hk,xv⟩:=aF.1 h1;have:(k:Int)<Q l:=aZ;have:(0:Int)<=(k:Int):=aZ;clear ho HI HC HO h1;go_wp2;go_step3;go_wp2_with fail
  apply bN (C3.aX w3 cT);intro H k4;replace y:=y.st k4;replace cT:=cT.tr k4;cases hok:iC j
  ·have HQ:Hid (R=(l,40)):=aY (by rw[HR.aX,bT hok]);have HW:=aY λW u=>Fg.aX _ W y u
   have aEa:my j=40:=by unfold my;rw[hok];rfl
   rw[aEa];clear y HR;exact Ko
  have hc0:my j=0:=by unfold my;rw[hok];rfl
  rw[hc0];have ku:Hid (R=if 8<=Q t.e.es then (l,171)else if ur (oF t.e j)then (l,172)else (l.set k ⟨oF t.e j,t.asked⟩,0)):=aY (by rw[HR.aX,bO (by rw[hok];decide)]);clear HR;obtain⟨b1,off,cs,rfl,hcl,hrl,d0,d⟩:=eN sA k hk bC;have hst:=hl _ (dG hk);have C:=hlf _ (dG hk);rw[xv]at hrl hst C;obtain⟨vf,ve,rfl,hf,he⟩:=hrl w (K.rf w);have HE:Hid (∀W,K w W->fc t.e (av (bQ t.e vf ve)) W):=aY λW k=>⟨_,_,rfl,fJ _ _ _ _ hf k,cH he k⟩
  have d0:∀W,K w W->W.cell? ⟨b1,off+k*9,U⟩=I (G J t.e.kind):=d0;have d:∀W,K w W->∀i,i<9->W.cell? ⟨b1,off+k*9+i,U⟩=(jm t vf ve)[i]?:=λW kk i hi=>(d W kk i hi).trans aD
  clear hrl hcl hf he;have q:=d _ cT;go_wp2_with fail
  apply dD (MA t.e _ H (HE.aX _ cT) hst);rintro v5 w5⟨sZ,k5⟩;obtain⟨U8,PC,rfl,PD,LN⟩:=sZ;obtain⟨A5,c5,rfl,-⟩:=PD.slice;obtain⟨D5,d5,rfl,-⟩:=LN.slice;have gh:=bn.new w5 128 (bQ t.e (F A5 (Q t.e.f) c5) (F D5 (Q t.e.es) d5));have k6:=gh.cC;go_upto_region 8 with fail;generalize w5.alloc _=w6 at *;have k46:=k5.tr k6;have zZ:=cT;replace cT:=cT.tr k46;have q6:=gh.cell;clear q;by_cases h8:8<=Q t.e.es
  ·have zn:(8:Int)<=(Q t.e.es:Int):=aZ;have HQ:Hid (R=(l,171)):=aY (by rw[ku.aX,bT h8]);have HW:=aY λW u=>Fg.aX _ W (y.st k46) u
   clear y ku PD LN;exact Ko
  have zn:¬(8:Int)<=(Q t.e.es:Int):=aZ;have Ad:Hid (R=if ur (oF t.e j)then (l,172)else (l.set k ⟨oF t.e j,t.asked⟩,0)):=aY (by rw[ku.aX,bO h8]);clear ku;go_upto_region 10 with fail;have:=k5.size;have:=k6.size;obtain⟨z,sX⟩:∃z,z=Z (D w5):=⟨_,rfl⟩;rw[<- sX]at gh q6⊢;have:=gh.lt;have LO:=LN.blk;obtain⟨N,B⟩:∃N:Nat->Prop,N=λk=>(k<Z (D H)∨k=z)∨aW (F D5 (Q t.e.es) d5)=I k:=⟨_,rfl⟩
  have hNl:∀k,N k->k<Z (D w6):=λk h=>bG
  have hoY:bK (λk=>k<Z (D H)∨k=z) (Z (D H)) 35 dS t.e.es (F D5 (Q t.e.es) d5) w6:=(LN.tR.to (bf.rf (λ_=>False) _) (λ_ h=>h.elim) (λ_ _ h=>h) λk hk h=>aI aZ).st k6;have HX:=aY (show Fx N (λW=>fQ t.e.f (F A5 (Q t.e.f) c5) W) w6 from λW' u=>yZ (Hr PD λg h1 h2 h3=>(u.block g aZ (λhk=>by
   rw[B]at hk;rcases hk with (hk|hk)|hk
   ·omega
   ·omega
   ·obtain⟨cur,h4⟩:=nK PD h3;exact absurd ((LN.tR.own hk).2.2.elim λ_ h=>h4.js h) bC)).trans (k6.block g h2)))
  have hne:aW (F D5 (Q t.e.es) d5)≠I z:=λe=>by have:=LO z e;omega
  generalize hve:F D5 (Q t.e.es) d5=PC at *;generalize Jl:F A5 (Q t.e.f) c5=U8 at *;have an9:Hid (∀W,K H W->K w W):=aY λW k=>zZ.tr k
  have kR:∀W,oI PC w6 W->K H W:=λW u=>u.k k46 λk e=>(LO k e).1
  have qs:=λW (u:oI PC w6 W)=>(gh.cA u hne).cell
  refine FB 7 5 t.e.es PC j 43 Ln [([],[]),([0],[(34,0)]),([],[]),([2],[(36,2)]),([3],[(37,3)]),([1,4],[(35,1),(38,4)]),([5],[]),([6,5],[(40,6),(39,5)])] 50 hoY aZ aZ ?_;iterate 3 refine bA.i ?_
  refine bA.op (λv W=>(∃A n c,v=F A n c)/\Fx N (λW=>iT j v W) W) (λv w w' ⟨e,h⟩ k=>⟨e,h.up (bf.gy (X:=λb=>aW PC=I b) k λ_ h=>h) λb h=>by rw[B];exact aJ h⟩) (λV W O hp=>?_) ?_
  ·simp only[dE,bU,bZ,dA,dB,bM]at hp;obtain⟨yL,yM,e2,cZ⟩:=HU.aX W (an9.aX _ (kR W O));rw[e2]at hp;obtain⟨v',w'',hrun,h1,h5,h3⟩:=awV (P:=prog) (ρ:=bP [(36,2)] _ V) (.const (F U 0 0)) (.tmp 36) 35 35 88 (Z (D W)) _ 4 48 TE (F U 0 0) 0 [] rfl (mr _ _ _ _) (Z (D W)) yL (Q j) yM (j.flatMap lV) hp.1 cZ (XG j) aZ (bL _);change eH _ _ _ ((aL (bP [(36,2)] _ V) (bR (.call { callee:=.builtin .append,args:=#[.const (F U 0 0),.tmp 36],argTypes:=#[35,35] }) 35)).run _ _);rw[hrun];have ho:sO w'' (Z (D W)) v' j:=Cx;have hr:Fx N (λW=>iT j v' W) w'':=λW' u=>by obtain⟨v2,e3,h9⟩:=sO.rel ho W' (u.uE λk h1 _ _ hx=>by have:=hNl k hx;have:=O.size;omega);injection e3 with e3;rw[e3];exact h9
   obtain⟨A3,c3,e3⟩:=tc hr.now;exact⟨⟨⟨_,_,_,e3⟩,hr⟩,h5⟩
  refine bA.Gg (S:=dS) (N:=N) (Z (D w6)) Ln j (λ_ h=>h.size) (λb hb=>⟨by rw[B];exact aJ hb,hNl b (by rw[B];exact aJ hb)⟩) (λV W O hp=>?_) ?_
  ·simp only[dE,bU,bZ,dA,dB,bM]at hp;obtain⟨⟨⟨A,n,c,e⟩,hF⟩,-⟩:=hp;show vX _ _ _ (V 3) _;rw[e]at hF⊢;exact⟨rfl,hF.mono λW h=>⟨_,rfl,h⟩⟩
  refine bA.s ?_;refine bA.i ?_;refine⟨λ_ _=>trivial,λV W O hp=>?_,λV W O hP hv hA=>?_⟩
  ·simp only[dE,bU,bZ,dA,dB,bM]at hp;exact⟨hp.1,hp.2.1.less λ_ h=>by rw[B];exact h⟩
  simp only[bU,bZ,dx,bM,Nat.reduceAdd]at hA;obtain⟨M,L,T⟩:=hP.slice;rw[eU,List.length_singleton]at T;rw[T]at hP;have hA:=aB T hA;have mL:=gh.cA O hne;have qs:=aB mL.cell mL.frozen;refine bJ.s ?_;refine bJ.h ?_;have us:bf (λk=>k=z) W (aV W ⟨z,7,U⟩ (F M (Q t.e.es+1) L)):=bf.dc (X:=λk=>k=z) rfl 7 _;have cN:bn (aV W ⟨z,7,U⟩ (F M (Q t.e.es+1) L)) z 128 (bQ (oF t.e j) U8 (F M (Q t.e.es+1) L)):=mL.cz 7 _;have kW4:=us.k (kR W O) λk e=>aZ
  have B:∀W',bf (λk=>k<Z (D H)∨k=z) (aV W ⟨z,7,U⟩ (F M (Q t.e.es+1) L)) W'->fQ t.e.f U8 W'/\bw dS (t.e.es++[j]) (F M (Q t.e.es+1) L) W':=λW' u=>by
   have u2:bf (λk=>k<Z (D H)∨k=z) W W':=(us.more λ_ h=>aJ h).tr u;refine⟨HX.aX W' ((O.more λk h=>by rw[B];exact aJ h).tr (u2.more λk h=>by rw[B];exact aI h)),(hP.to u2 (λ_ h=>h) (λk e h=>?_) λ_ _ h=>aI h).bw⟩;have h1:=hP.own e;rcases h with h|h
   ·omega
   ·subst h;exact absurd (h1.2.2.elim λ_ h=>h.js mL) bC
  clear hA qs us hP hv;generalize ax W _ _=W at *;have kW:=an9.aX _ kW4;have q:=cN.cell;have LP:dQ (oF t.e j):=⟨C.1,C.2.1,C.2.2.1,C.2.2.2.1,C.2.2.2.2.1,C.2.2.2.2.2.1,C.2.2.2.2.2.2.1,λe he=>by
   rcases List.mem_append.1 he with h1|h1
   ·exact C.2.2.2.2.2.2.2 e h1
   ·simp at h1;subst h1;exact HEV.aX⟩
  have C4:=aY (agu (oF t.e j) (av (bQ (oF t.e j) U8 (F M (Q t.e.es+1) L))) W ⟨_,_,rfl,(B W (bf.rf _ _)).1,(B W (bf.rf _ _)).2⟩ LP);have HN:=aY B;have HOW:=aY (y.st kW4);have aDo:=aY λg h=>(y.blk g h).2
  clear HX y B PD LN hoY C hst LP sX;subst Jl;go_wp2_with fail
  apply bN C4.aX;intro Y k8;have Va:=aY (HOW.aX.st k8);have kw8:=kW.tr k8;have sB:=cN.bF k8;clear q cN;cases abd:ur (oF t.e j);rotate_left
  ·have HQ:Hid (R=(l,172)):=aY akd;have HW:=aY λW u=>Fg.aX _ W Va.aX u
   clear abd Ad Va HOW;go_wp2;try rw[jt]
   go_ret2;exact⟨_,pM,Ic,kw8⟩
  have HQ:Hid (R=(l.set k ⟨oF t.e j,t.asked⟩,0)):=aY akd;have y:=Va.aX;have hkb:=y.blk;obtain⟨T2,TI,aEb,hEO⟩:=y;have Vb:=hEO Y (bV.rf _ _ _);have xX:=Vb.lens;have hkc:k<Q T2:=aZ;have dM:=Vb.Gf;obtain⟨vfo,veo,hcs,-,-⟩:=Vb.2 k hk hkc;rw[xv]at hcs;rcases TI.2 with ⟨h0,BZ⟩|⟨go,cap,cur,rfl,-⟩
  ·omega
  have:=(hkb go rfl).1;have aEc:=aDo.aX go rfl;have hqO:k*9+9<=Q T2.flatten:=by rw[dM];show k*9+9<=Q l*9;omega
  obtain⟨hcell,hfz⟩:=Hi TI;have dO:∀i,i<9->Y.cell? ⟨go,k*9+i,U⟩=(jm t vfo veo)[i]?:=λi hi=>by rw[hcell _ aZ,show k*9+i=k*eC.size+i from rfl,yV eC.size T2 xX k i hkc hi,aE hkc,Option.getD_some,hcs];exact aD
  have:Y.cell? ⟨go,k*9,U⟩=I (G J t.e.kind):=dO 0 aZ;have:=λi=>hfz (k*9+i)
  have:=hfz (k*9);have q:=sB.cell;obtain⟨zb,TJ⟩:∃zb:List aQ,zb=(bQ (oF t.e j) (F A5 (Q t.e.f) c5) (F M (Q t.e.es+1) L)).toList:=⟨_,rfl⟩;have D2:Q zb=8:=by rw[TJ];rfl
  have jc:=RB zb _ (k*9) Y TI (by rw[D2];omega);have T:=QT eC.size zb T2 xX k 0 hkc (by rw[D2];decide);rw[show k*eC.size+0=k*9 from rfl]at T;rw[T,hcs]at jc;have iV:qM (jm t vfo veo).toList 0 zb=(jm ⟨oF t.e j,t.asked⟩ (F A5 (Q t.e.f) c5) (F M (Q t.e.es+1) L)).toList:=by rw[TJ];rfl
  rw[iV]at jc;have uG:=bf.sets (X:=λk=>k=go) (g:=go) rfl zb (k*9) Y;have uX:=bf.sets (X:=λk=>k<Z (D H)∨k=z) (g:=go) (aI aEc) zb (k*9) Y;have HK:=aY (bV.k (uG.uE (lo:=0) (row:=I go) (λk _ _ h e=>h Hy)) kw8 (by rintro b e;cases e;omega));have HW:Hid (∀W',bV (Z (D w)) U (dL Y go (k*9) zb) W'->bw eC (l.set k ⟨oF t.e j,t.asked⟩) (F (I ⟨go,0,U⟩) (Q l) cap) W'):=aY λW' u=>by have h9:=HN.aX _ (((bf.bS k8 _).tr uX).tr (bV.upN u (λk hk=>by rcases hk with hk|hk;exact aI (by omega);cases hk)));have hE9:=(hEO _ ((uG.uE (λk _ _ h e=>h Ex)).tr (u.more oV (λk _ _=>bq)))).set k (x:=⟨oF t.e j,t.asked⟩) (cs:=(jm ⟨oF t.e j,t.asked⟩ (F A5 (Q t.e.f) c5) (F M (Q t.e.es+1) L)).toList) ⟨_,_,rfl,h9.1,h9.2⟩;exact Q9 (S:=eC) (Hr (by rw[List.length_set];exact jc) λg h1 h2 _=>u.block g aZ h2 bq) hE9
  rw[TJ]at HW HK;clear hcell hfz TI jc hEO xX dM hkb HN uG uX T iV D2 TJ Vb hcs aEb hqO Va HOW Ad abd xv HU;go_wp2;try rw[jt]
  go_ret2;exact⟨_,pM,Ic,HK.aX⟩
