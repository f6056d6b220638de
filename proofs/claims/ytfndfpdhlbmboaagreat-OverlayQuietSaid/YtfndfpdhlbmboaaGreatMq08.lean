/-
  The walks of filter.Holds and filter.Matches. Conditions: none.
-/
import Derived.Test.YtfndfpdhlbmboaaGreatMq07
import Derived.Test.YtfndfpdhlbmboaaGreatMqz
set_option maxRecDepth 100000
set_option maxHeartbeats 16000000
set_option linter.all false
namespace Go.Proofs.YtfndfpdhlbmboaaGreat
open Go Go.RowKit _root_.Go.Proofs.Tryz
theorem aqh e s:(∃x:cM,e.find? (mJ s)=some x/\Cm e s=.tuple #[vv x.2.1 x.2.2.1 x.2.2.2,.bool true])∨(e.find? (mJ s)=none/\Cm e s=.tuple #[vv 0 0 { data:=#[] },.bool false]):=by
 unfold Cm
 cases h:e.find? (mJ s)with
 | none=>exact .inr ⟨rfl,rfl⟩
 | some x=>exact .inl ⟨x,rfl,rfl⟩
theorem aqi t e v w(O:iy e v w)(J:e.length<=1000000) :
 Calls prog 264 #[ry t,v] w λr w'=>r=.returned (.bool (p5 t e))/\Below w.heap.size w w':=by
 obtain⟨s,op,k,n,x⟩:=t
 have C:Below w.heap.size w (w.alloc (.cells #[.string s,.int .i64 op,.int .i64 k,.int .i64 n,.string x] 73)):=(cP _ _).alloc (aD _) _
 have M:=ah.new w 73 #[.string s,.int .i64 op,.int .i64 k,.int .i64 n,.string x]
 have I:=mY _ _ _ _ O C
 rcases aqh e s with ⟨y,hf,H⟩|⟨hf,H⟩
 ·have G:Hid (∀W,iy e v W->Calls prog 301 #[v,.string s] W λr w'=>r=.returned (.tuple #[vv y.2.1 y.2.2.1 y.2.2.2,.bool true])/\Below W.heap.size W w'):=ae λW h=>by have:=aey s h J;rwa [H]at this
  have HE:Hid (p5 (s,op,k,n,x) e=jc (s,op,k,n,x) y.2):=ae ahH;obtain⟨yn,A,u,j⟩:=y;simp only at G HE;go_in;go_wp2_with fail
  apply aI (G.aa _ I);intro B F;have E:=(M.ay F).alloc (.cells #[.int .i64 A,.int .i64 u,.string j] 71);have D:=C.trans (F.mono C.size);have L:Below w.heap.size w (B.alloc (.cells #[.int .i64 A,.int .i64 u,.string j] 71)):=D.alloc D.size _;have U:(B.alloc (.cells #[.int .i64 A,.int .i64 u,.string j] 71)).cell? ⟨w.heap.size,0,none⟩=some (.string s):=E.cell 0;have x1:(B.alloc (.cells #[.int .i64 A,.int .i64 u,.string j] 71)).cell? ⟨w.heap.size,1,none⟩=some (.int .i64 op):=E.cell 1;have Q:(B.alloc (.cells #[.int .i64 A,.int .i64 u,.string j] 71)).cell? ⟨w.heap.size,2,none⟩=some (.int .i64 k):=E.cell 2;have V:(B.alloc (.cells #[.int .i64 A,.int .i64 u,.string j] 71)).cell? ⟨w.heap.size,3,none⟩=some (.int .i64 n):=E.cell 3;have Z:(B.alloc (.cells #[.int .i64 A,.int .i64 u,.string j] 71)).cell? ⟨w.heap.size,4,none⟩=some (.string x):=E.cell 4;go_upto_region 2 with fail;have hn:=ah.new B 71 #[.int .i64 A,.int .i64 u,.string j];have T:=hn.cell 0;have S:=hn.cell 1;have X:=hn.cell 2;generalize R:B.alloc (.cells #[.int .i64 A,.int .i64 u,.string j] 71)=Y at *;go_wp2_with fail
  apply aI (aex (s,op,k,n,x) (A,u,j) _);intro w3 N;go_wp2;go_ret;exact⟨iq,L.trans (N.mono L.size)⟩
 ·have G:Hid (∀W,iy e v W->Calls prog 301 #[v,.string s] W λr w'=>r=.returned (.tuple #[vv 0 0 { data:=#[] },.bool false])/\Below W.heap.size W w'):=ae λW h=>by have:=aey s h J;rwa [H]at this
  have HE:Hid (p5 (s,op,k,n,x) e=false):=ae ahH;go_in;go_wp2_with fail
  apply aI (G.aa _ I);intro B F;have D:=C.trans (F.mono C.size);go_wp2;go_ret;exact⟨iq,D.alloc D.size _⟩
theorem apo(l:List cX)(e:List cM)(k:Nat)(h:k<l.length)(ha:∀t∈l.take k,p5 t e=true)(hb:p5 l[k] e=true):∀t∈l.take (k+1),p5 t e=true:=afl
theorem aqj l e k(h:k<l.length)(hb:p5 l[k] e=false):mq l e=false:=by
 grind [p5,mq]
theorem apq l e(h:∀t∈l.take l.length,p5 t e=true):mq l e=true:=by
 grind [p5,mq]
theorem abK A c l e v w B(N:Reads w B 5 A l.length (l.flatMap fq))(X:B<=w.heap.size)(wO:l.length<=1000000)(he:iy e v w)(S:e.length<=1000000) :
 Calls prog 174 #[.slice A l.length c,v] w λr w'=>r=.returned (.bool (mq l e))/\Below w.heap.size w w':=by
 have M:=ae N
 have HV:=ae he
 go_in
 go_wp2
 go_step3
 go_wp2_with fail
 go_step3
 go_wp2_with fail
 go_loopw [5,10] (fun m i wr=>∃k:Nat,k<=l.length/\i=.int .i64 k/\m=.bool true/\Hid (∀t∈l.take k,p5 t e=true)/\Below w.heap.size w wr) (fun _ i _=>l.length-(intOf i).toNat)
 case atStart=>exact⟨0,af,rfl,rfl,ae aj,cP _ _⟩
 case round =>
  obtain⟨k,hk,rfl,rfl,H,hb⟩:=hrel;by_cases C:k<l.length
  ·have fe:(k:Int)<l.length:=af;obtain⟨b,u,rfl,W,R⟩:=M.aa.I5 af;obtain⟨Z,V,J,L,T⟩:=R k C;have j:=bw W X;have d0:=(hb.cell (p:=⟨b,u+k*5,none⟩) j).trans Z;have d1:=(hb.cell (p:=⟨b,u+k*5+1,none⟩) j).trans V;have d2:=(hb.cell (p:=⟨b,u+k*5+2,none⟩) j).trans J;have d3:=(hb.cell (p:=⟨b,u+k*5+3,none⟩) j).trans L;have O:=(hb.cell (p:=⟨b,u+k*5+4,none⟩) j).trans T;have Y:=ae (apo l e k C H.aa);have EI:=ae (aqj l e k C);have hz:=hb.size;generalize l[k]=x at *;obtain⟨xs,F,y,E,D⟩:=x;simp only at d0 d1 d2 d3 O;have I:Below wr.heap.size wr (wr.alloc (.cells #[.string xs,.int .i64 F,.int .i64 y,.int .i64 E,.string D] 73)):=(cP _ _).alloc (aD _) _;have Q:=ae (mY _ _ _ _ (mY _ _ _ _ HV.aa hb) I);go_wp2_with fail
   apply aI (aqi (xs,F,y,E,D) e v _ Q.aa S);intro w2 hb2;have G:=(hb.trans (I.mono hz)).trans (hb2.mono aY);cases hh:p5 (xs,F,y,E,D) e
   ·have HE:=ae (EI.aa hh);go_wp2;try rw[ig]
    go_ret;exact⟨iq,G⟩
   ·have U:=ae (Y.aa hh);go_wp2;go_roundw
    case rel=>exact⟨k+1,af,bD,Lh,U,G⟩
    case measure=>simp[intOf];omega
  ·have fe:¬(k:Int)<l.length:=af;have HE:=ae (apq l e (by
    have:=H.aa;rwa [show k=l.length by omega]at this))
   go_wp2;try rw[ig]
   exact PT
theorem aqk{l e vf j w}(B:eI l vf w)(t:l.length<=1000000)(C:iy e j w)(u:e.length<=1000000) :
 Calls prog 174 #[vf,j] w λr w'=>r=.returned (.bool (mq l e))/\Below w.heap.size w w':=by
 obtain⟨A,c,rfl,y⟩:=B
 exact abK A c l e j w _ y (aD _) t C u
theorem arR l v q(f:Nat) cs w(h:aq iz l v w)(N:l.length<=1000000)(Q:∀args W,(callFunc f args).run prog W=.ok (.enter f args) W)
 (L:∀W,K w W->∀x∈l,∀u,sub x u W->Calls prog f (#[u]++cs) W λe W'=>e=.returned (.bool (q x))/\K W W') :
 Calls prog 263 #[v,.func (.func f) #[] cs] w λe w'=>∃i:Int,e=.returned (.int .i64 i)/\K w w'/\decide (0<=i)=l.any q:=by
 have E:=K.rf w
 obtain⟨A,c,rfl,h,-⟩:=h
 have H:=ae L
 go_in
 go_wp2_with fail
 go_loopw [5,8] (fun _ i wr=>∃k:Nat,k<=l.length/\i=.int .i64 k/\Hid ((l.take k).any q=false)/\K w wr) (fun _ i _=>l.length-(intOf i).toNat)
 case atStart=>exact⟨0,af,rfl,ae aj,E⟩
 case round =>
  obtain⟨k,hk,rfl,hall,kr⟩:=hrel;by_cases y:k<l.length
  ·have fe:(k:Int)<l.length:=af;obtain⟨D,B,M,rfl,O,F,C,d⟩:=ed h k y ax;have HB:=ae (yp q l k y);have HA:=ae (yq q l (k+1));have hm:=bT y;generalize l[k]=t at *;obtain⟨vf,rfl,G⟩:=F wr kr;have C:∀W,K w W->W.cell? ⟨D,B+k*3,none⟩=some (.int .i64 t.cl):=C;have d:∀W,K w W->∀i,i<3->W.cell? ⟨D,B+k*3+i,none⟩=(mG t vf)[i]?:=λW j J=>λI=>(d W j J I).trans Array.getElem?_toList
   have C1:=ae (H.aa wr kr t hm (.agg (mG t vf)) ⟨vf,rfl,G⟩);exact WK
  ·exact WL
theorem aql l v q(f:Nat) cs w(h:aq iz l v w)(t:l.length<=1000000)(j:∀args W,(callFunc f args).run prog W=.ok (.enter f args) W)
 (D:∀W,K w W->∀x∈l,∀u,sub x u W->Calls prog f (#[u]++cs) W λe W'=>e=.returned (.bool (q x))/\K W W') :
 Calls prog 172 #[v,.func (.func f) #[] cs] w λe w'=>e=.returned (.bool (l.any q))/\K w w':=by
 have y:=ae (arR l v q f cs w h t j D)
 obtain⟨A,c,rfl⟩:=av h
 generalize l.any q=R at *
 go_in
 go_wp2_with fail
 refine y.aa.mono ?_
 rintro e E⟨i,rfl,B,C⟩
 have HR:=ae C
 go_wp2
 go_ret
 exact⟨WM,B⟩
theorem atL s c v g w(h:sub s v w)(hg:ah w g 3 #[.int .i64 c]) :
 Calls prog 168 #[v,.pointer (some ⟨g,0,none⟩)] w λe w'=>e=.returned (.bool (decide (s.cl=c)))/\K w w':=by
 obtain⟨vs,rfl,t⟩:=h
 obtain⟨A,d,rfl⟩:=b5 t
 have j:=K.new w (.cells (mG s (.slice A s.f.length d)) 246)
 have q:=hg.cells
 go_in
 go_wp2
 go_ret
 refine⟨?_,j⟩
 show Ending.returned (.bool _)=Ending.returned (.bool _)
 rfl
theorem atM s e v t g w(h:sub s v w)(hg:ah w g 51 #[t])(y:iy e t w)(B:s.f.length<=1000000)(G:e.length<=1000000) :
 Calls prog 173 #[v,.pointer (some ⟨g,0,none⟩)] w λr w'=>r=.returned (.bool (mq s.f e))/\K w w':=by
 obtain⟨vs,rfl,u⟩:=h
 have:=u
 obtain⟨A,d,rfl,F⟩:=u
 have hb:=ah.new w 246 (mG s (.slice A s.f.length d))
 have j:=hb.aS
 have D:=hg.ay j
 have C:=ae (abK A d s.f e t _ _ (F.below j (aD _)) j.size B (mY _ _ _ _ y j) G)
 obtain⟨I,H,rfl⟩:=wY y
 generalize mq s.f e=R at *
 go_in
 go_upto_region 1 with fail
 generalize w.alloc _=N at *
 have q:=hb.cell
 have:=D.cell
 go_wp2_with fail
 apply cF C.aa j
 intro M L E
 go_wp2
 go_ret
 exact⟨rfl,E⟩
theorem atO l e v t g w(h:aq iz l v w)(hg:ah w g 132 #[v])(y:iy e t w)(G:l.length<=1000000)(Q:∀s∈l,s.f.length<=1000000)(L:e.length<=1000000) :
 Calls prog 171 #[t,.pointer (some ⟨g,0,none⟩)] w λr w'=>r=.returned (.bool (anyS l e))/\K w w':=by
 have HR:Hid (anyS l e=l.any λs=>mq s.f e):=ae rfl
 have O:=ae y
 obtain⟨E,C,rfl⟩:=wY y
 have hb:=ah.new w 51 #[.slice E e.length C]
 have j:=hb.aS
 have F:=hg.ay j
 have H:=ae (bj h j)
 have N:=ae Q
 obtain⟨A,c,rfl⟩:=av h
 generalize anyS l e=R at *
 go_in
 go_upto_region 1 with fail
 generalize w.alloc _=D at *
 generalize w.heap.size=gb at hb⊢
 have M:=ae (aql l _ (λs=>mq s.f e) 173 #[.pointer (some ⟨gb,0,none⟩)] D H.aa G (λ_ _=>cC) λW k s J u B=>atM s e u _ gb W B (hb.ay k) (mY _ _ _ _ O.aa (j.tr k)) (N.aa s J) L)
 have:=F.cell
 go_wp2_with fail
 apply cF M.aa j
 intro T U I
 go_wp2
 go_ret
 exact⟨fJ,I⟩
theorem aqm l c x v N w(h:aq iz l v w)(hx:dx x N w)(hlen:l.length<=1000000)(hs:∀s∈l,s.f.length<=1000000)(O:ew x) :
 Calls prog 104 #[v,.int .i64 c,N] w λe w'=>∃v',e=.returned v'/\aV w.heap.size w.heap.size 51 cI (pr l c x) v' w'/\K w w':=by
 have X:Hid (pr l c x=if x.kind=1 then x.es.filter (anyS (l.filter λs=>decide (s.cl=c)))else []):=ae (by unfold pr qC;simp)
 have HL:=ae (IY h)
 have HS:=ae hs
 obtain⟨vf,ve,rfl,hf,j⟩:=hx
 have Y:=ae (IY j)
 obtain⟨L,H,rfl⟩:=b5 hf
 obtain⟨D,C,rfl⟩:=av j
 obtain⟨A,d,rfl⟩:=av h
 have t:=K.kK w (.cells #[.int .i64 c] 3) (.cells (aE x (.slice L x.f.length H) (.slice D x.es.length C)) 126)
 have hb:=(ah.new w 3 #[.int .i64 c]).alloc (.cells (aE x (.slice L x.f.length H) (.slice D x.es.length C)) 126)
 have y:=ah.new (w.alloc (.cells #[.int .i64 c] 3)) 126 (aE x (.slice L x.f.length H) (.slice D x.es.length C))
 have hz:(w.alloc (.cells #[.int .i64 c] 3)).heap.size=w.heap.size+1:=aj
 rw[hz]at y
 generalize pr l c x=R at *
 go_in
 go_upto_region 1 with fail
 generalize World.alloc (World.alloc w _) _=w1 at *
 have hz1:=t.size
 generalize nF:w.heap.size=lo at hb y HL Y hz1⊢
 have lL:=ae nF
 have q:=y.cell
 by_cases hk:x.kind=1
 rotate_left
 ·have HF:Hid (R=[]):=ae (by rw[X.aa,if_neg hk]);have hk2:(x.kind != 1)=true:=sN;go_wp2;go_ret;exact⟨_,rfl,WN,t⟩
 have HF:Hid (R=x.es.filter (anyS (l.filter λs=>decide (s.cl=c)))):=ae (by rw[X.aa,if_pos hk])
 have hk2:(x.kind != 1)=false:=FW
 have C1:=ae (Fs (λk=>lo<=k) l _ (λs=>decide (s.cl=c)) 168 #[.pointer (some ⟨lo,0,none⟩)] w1 (HL.aa.st t) hlen (λ_ _=>cC) λW k s _ u B=>atL s c u lo W B (hb.ay k))
 go_wp2_with fail
 apply bN C1.aa
 rintro v2 E⟨M,U⟩
 have:=lQ (λs=>decide (s.cl=c)) l
 have ES:=Ir (q:=λs=>decide (s.cl=c)) HS.aa
 generalize l.filter (λs=>decide (s.cl=c))=l2 at *
 obtain⟨A2,c2,rfl⟩:=M.slice
 have ik:=y.ay U
 have bB:=t.tr U
 have fg:=M.aq
 go_upto_region 4 with fail
 have I:=ah.new E 132 #[.slice A2 l2.length c2]
 have J:=I.aS
 have oD:=ik.ay J
 have Z:=bB.tr J
 have H3:=ae (bj fg J)
 generalize E.alloc _=w3 at *
 generalize E.heap.size=T at I⊢
 have JI:=Y.aa.st Z
 have G:=ae O
 have C2:=ae (acq (λk=>lo<=k) x.es _ (anyS l2) 171 #[.pointer (some ⟨T,0,none⟩)] w3 JI O.2.1 (λ_ _=>cC) λW k e j u B=>atO l2 e _ u T W (bj H3.aa k) (I.ay k) B af ES (G.aa.2.2 e j))
 have:=oD.cell
 go_wp2_with fail
 apply rr C2.aa Z
 intro v4 w4 cY k4 Q
 have:=lQ (anyS l2) x.es
 have hs4:∀e∈x.es.filter (anyS l2),e.length<=1000000:=λe j=>G.aa.2.2 e (List.mem_filter.1 j).1
 have F:=cY.aq
 have S:=ae (Um _ v4 w4 F (by have:=G.aa.2.1;omega) hs4)
 rw[<- HF.aa]at S F
 obtain⟨A4,c4,rfl⟩:=av F
 go_wp2_with fail
 apply rr S.aa Q
 intro v5 w5 V k5 kF
 have:=Q.size
 have HO:Hid (aV lo lo 51 cI R v5 w5):=ae (aV.low (aV.floor V WI) WI)
 obtain⟨A5,c5,rfl⟩:=av V.sw.aq
 go_wp2
 go_ret
 exact⟨_,rfl,by rw[lL.aa];exact HO.aa,kF⟩
theorem fold_succ{α β:Type}(f:β->α->β)(l:List α)(b:β)(j:Nat)(h:j<l.length):(l.take (j+1)).foldl f b=f ((l.take j).foldl f b) l[j]:=by rw[gg h,List.foldl_append];rfl
theorem ac1{α:Type}(f:α->Int):∀l:List α,(l.filter λs=>decide (f s<0)).length+(l.filter λs=>decide (0<f s)).length<=l.length
 | []=>aj
 | x :: l=>by
  have:=ac1 f l;by_cases t:f x<0
  ·have j:¬0<f x:=af;simp[t,j];omega
  ·by_cases j:0<f x
   ·simp[t,j];omega
   ·simp[t,j];omega
theorem arS l x:(tS l x).length<=l.length+1:=by
 have:=ac1 (λs=>jr s x) l
 unfold tS
 grind
def Cq(l:List lB):Prop:=∀s∈l,s.f.length<=1000000
theorem avN{l x}(h:Cq l)(j:x.f.length<=1000000):Cq (tS l x):=by
 grind [Cq,tS]
def kI(o:List lB)(x:aL):List lB:=if x.kind=1 then o else tS o x
theorem adJ l x:(kI l x).length<=l.length+1:=by
 grind [kI,arS]
theorem ahI{l x}(h:Cq l)(j:x.f.length<=1000000):Cq (kI l x):=by
 grind [kI,avN]
theorem Qw l:jW l=l.foldl kI []:=rfl
theorem UZ l:(jW l).length<=l.length:=by
 rw[Qw];have key:∀(l:List aL) (o:List lB),(l.foldl kI o).length<=o.length+l.length:=by
  intro l
  induction l with
  | nil=>intro o;simp
  | cons x l j=>intro o;have:=j (kI o x);have:=adJ o x;simp only[List.foldl_cons,eQ];omega
 simpa using key l []
theorem ahJ{l}(h:∀x∈l,ew x):Cq (jW l):=by
 rw[Qw];have key:∀(l:List aL) (o:List lB),(∀x∈l,ew x)->Cq o->Cq (l.foldl kI o):=by
  intro l
  induction l with
  | nil=>intro o _ j;exact j
  | cons x l u=>intro o t j;exact u _ (λy A=>t y aB) (ahI j (t x aj).1)
 exact key l [] h λs B=>aB
theorem acu{M p B w}(h:bA M p B w)(J:bC B) n(hn:n<=B.st.list.length) :
 Calls prog 103 #[.pointer (some ⟨p.g,0,none⟩),.int .i64 n] w λe w'=>∃v',e=.returned v'/\aC (λk=>k<w.heap.size) w.heap.size 246 iz (jW (B.st.list.take n)) v' w'/\K w w':=by
 have U:=J.Ed
 have:=J.dk.len
 have q:=h.blk.cell
 have E:=h.bF.now.list
 obtain⟨g,gl,gd,gr,gt,vd,vr,vp,vh,vl,vq,va,vt,vf,vw,kr⟩:=p
 simp only at q E
 obtain⟨Al,cl,rfl,hl,hcl⟩:=E
 have:B.st.list.length<=300000:=af
 have sG:=ae U.1
 have NL:=ae (Qw (B.st.list.take n))
 have Y:=ae λ(j:Nat) (hj:j<n)=>fold_succ kI B.st.list [] j af
 have G:=ae λ(j:Nat)=>UZ (B.st.list.take j)
 have S:=ae λ(j:Nat)=>ahJ (l:=B.st.list.take j) λx u=>U.1 x (nQ u)
 simp only[Qw]at G S
 generalize jW (B.st.list.take n)=R at *
 have X:=K.rf w
 have hO:=aC.nil (λk=>k<w.heap.size) w.heap.size 246 iz w
 have:(n:Int)<=cl:=af
 go_in
 go_wp2_with fail
 go_loopw [5,7,16] (fun o _ i W=>∃j:Nat,j<=n/\i=.int .i64 j/\aC (fun k=>k<w.heap.size) w.heap.size 246 iz ((B.st.list.take j).foldl kI []) o W/\K w W) (fun _ _ i _=>n-(intOf i).toNat)
 case atStart=>exact⟨0,af,rfl,fk,X⟩
 case round =>
  obtain⟨j,hj,rfl,hO,kr⟩:=hrel;by_cases hlt:j<n
  ·have aO:(j:Int)<n:=af;have O:j<B.st.list.length:=af;obtain⟨Q,T,cs,rfl,iD,hrl,d0,d⟩:=ed hl j O ax;have L:=ae (Y.aa j hlt);have pW:=sG.aa _ (bT O);have:=G.aa j;have hFj:=S.aa j;have:(B.st.list.take j).length<=300000:=aY;generalize B.st.list[j]=x at *;generalize (B.st.list.take j).foldl kI []=y at *;obtain⟨vf,D,rfl,H,V⟩:=hrl w (K.rf w);have HE:Hid (∀W,K w W->dx x (.agg (aE x vf D)) W):=ae λW k=>⟨_,_,rfl,eu _ _ _ _ H k,bj V k⟩
   have q:∀i,i<8->wr.cell? ⟨Q,T+j*8+i,none⟩=(aE x vf D)[i]?:=λi hi=>(d wr kr i hi).trans Array.getElem?_toList
   have:wr.cell? ⟨Q,T+j*8,none⟩=some (.int .i64 x.kind):=d0 wr kr;have u:=ah.new wr 126 (aE x vf D);have N:=u.aS;obtain⟨Af,cf,rfl⟩:=b5 H;obtain⟨Ae,ce,rfl⟩:=av V;go_upto_region 5 with fail;generalize wr.alloc _=F at *;have A:=hO.st N;have t:=kr.tr N;have q:=u.cell;obtain⟨Ao,co,rfl⟩:=A.slice;by_cases hk:x.kind=1
   ·have C:Hid ((B.st.list.take (j+1)).foldl kI []=y):=ae (by rw[L.aa];unfold kI;rw[if_pos hk]);have hk2:(x.kind != 1)=false:=FW;rw[<- C.aa]at A;go_wp2;go_roundw
    case rel=>exact⟨j+1,af,bD,by rw[<- C.aa];exact A,t⟩
    case measure=>simp[intOf];omega
   have C:Hid ((B.st.list.take (j+1)).foldl kI []=tS y x):=ae (by rw[L.aa];unfold kI;rw[if_neg hk]);have hk2:(x.kind != 1)=true:=sN;have C1:=ae (acr y x _ _ F A.aq (HE.aa F t) af hFj pW.1);go_wp2_with fail
   apply rr C1.aa t;intro v2 w2 Z k2 qO;have hz1:=t.size;have I:aC (λk=>k<w.heap.size) w.heap.size 246 iz (tS y x) v2 w2:=(Z.less λk hk=>af).low hz1;rw[<- C.aa]at I;go_wp2;go_roundw
   case rel=>exact⟨j+1,af,bD,I,qO⟩
   case measure=>simp[intOf];omega
  ·have aO:¬(j:Int)<n:=af;obtain rfl:j=n:=af;rw[<- NL.aa]at hO;exact Qm
theorem aqn x y w d:(Op.equalIn (d+1+1+1) 225 (.agg (gV x)) (.agg (gV y))).run prog w=.ok (decide (x=y)) w:=by obtain⟨⟨a,b,c⟩,e⟩:=x;obtain⟨⟨A,D,t⟩,j⟩:=y;simp[gV,go_sem,KL];by_cases C:a=A <;> by_cases E:b=D <;> by_cases u:c=t <;> by_cases B:e=j <;> simp[C,u,E,B] <;> omega
theorem apr x y w:(binOp .eql 225 (.agg (gV x)) (.agg (gV y))).run prog w=.ok (.bool (decide (x=y))) w:=by have h:(Op.equal 225 (.agg (gV x)) (.agg (gV y))).run prog w=.ok (decide (x=y)) w:=aqn x y w 9997;exact ahK
theorem aps l a v w(h:aq ou l v w)(hlen:l.length<=1000000) :
 Calls prog 291 #[v,.agg (gV a)] w λe w'=>∃i:Int,e=.returned (.int .i64 i)/\K w w'/\decide (0<=i)=l.any λv=>decide (v=a):=by
 obtain⟨D,d,rfl,T,-⟩:=h
 have A:=ah.new w 225 (gV a)
 have t:=A.aS
 go_in
 go_upto_region 1 with fail
 generalize w.alloc _=E at *
 generalize w.heap.size=g at A⊢
 have H:=A.cells
 have G:=K.rf E
 go_wp2_with fail
 go_loopw [5,8] (fun _ i wr=>∃j:Nat,j<=l.length/\i=.int .i64 j/\Hid ((l.take j).any (fun v=>decide (v=a))=false)/\K E wr) (fun _ i _=>l.length-(intOf i).toNat)
 case atStart=>exact⟨0,af,rfl,ae aj,G⟩
 case round =>
  obtain⟨j,hj,rfl,HT,kr⟩:=hrel;by_cases C:j<l.length
  ·have F:(j:Int)<l.length:=af;obtain⟨y,u,cs1,rfl,iD,R,Q,dd⟩:=ed T j C ax;have HB:=ae (yp (λv=>decide (v=a)) l j C);have I:=ae (yq (λv=>decide (v=a)) l (j+1));generalize l[j]=x at *;obtain rfl:=R w (K.rf w);have O:=λW (kW:K wr W)=>H W (kr.tr kW)
   have J:∀W,K wr W->W.cell? ⟨y,u+j*4,none⟩=some (.int .i64 x.id.1):=λW kW=>Q W (t.tr (kr.tr kW))
   have p1:∀W,K wr W->W.cell? ⟨y,u+j*4+1,none⟩=some (.int .u64 x.id.2.1):=λW kW=>dd W (t.tr (kr.tr kW)) 1 ax
   have p2:∀W,K wr W->W.cell? ⟨y,u+j*4+2,none⟩=some (.int .u64 x.id.2.2):=λW kW=>dd W (t.tr (kr.tr kW)) 2 ax
   have p3:∀W,K wr W->W.cell? ⟨y,u+j*4+3,none⟩=some (.bool x.yes):=λW kW=>dd W (t.tr (kr.tr kW)) 3 ax
   go_upto_region 4 with fail;have qs:=And.intro J (And.intro p1 (And.intro p2 (And.intro p3 (And.intro O F))));refine dK 5 ?_;iterate 5 refine ar.i ?_
   intro V W kW hA;simp only[aN,aQ,b6,aJ,Nat.reduceAdd]at hA;obtain⟨M,e1,X,Y,L,-⟩:=hA;have S:=apr a x W;refine aH.pure (.bool (decide (a=x))) rfl ?_ ?_
   ·simp[aF,List.lookup,M,L,execOp,aG];rw[show (eqGuard BinOp.eql 225 (Operand.tmp 11) (Operand.tmp 15) (.agg (gV a)) (.agg (gV x))).run prog W=.ok () W from by simp[eqGuard,go_sem]];simp only[Result.andThen_ok,S]
   refine aH.e ?_;have JC:=kr.tr kW;have N:decide (a=x)=decide (x=a):=decide_eq_decide.2 eq_comm;rw[N];generalize U:decide (x=a)=q at *;have:=ae U;cases q
   ·have nC:Hid ((l.take (j+1)).any (λv=>decide (v=a))=false):=ae af3;exact VZ
   ·have HR:=ae (I.aa (by rw[HB.aa];simp));go_wp2;go_ret;exact⟨_,rfl,t.tr JC,by rw[HR.aa];simp⟩
  ·have F:¬(j:Int)<l.length:=af;have HR:=ae (by
    have B:=HT.aa;rw[gI af]at B;exact B)
   go_wp2;go_ret;exact⟨_,rfl,t.tr kr,fJ⟩
theorem an4 l a v w(h:aq ou l v w)(y:l.length<=1000000) :
 Calls prog 250 #[v,.agg (gV a)] w λe w'=>e=.returned (.bool (l.any λv=>decide (v=a)))/\K w w':=by
 have t:=ah.new w 225 (gV a)
 have j:=t.aS
 have C:=ae λW (kW:K w W)=>aps l a v W (bj h kW) y
 obtain⟨D,d,rfl⟩:=av h
 go_in
 go_wp2_with fail
 generalize w.alloc _=E at *
 refine (C.aa E j).mono ?_
 rintro e F⟨i,rfl,B,A⟩
 have u:=ae A
 go_wp2
 go_ret
 exact⟨by rw[<- u.aa];rfl,j.tr B⟩
theorem aqo m a y v g w(h:lI m v w)(hg:ah w g 26 #[.int .i64 a.1,.int .u64 a.2.1,.int .u64 a.2.2])(S:m.cG.length<=1000000) :
 Calls prog 249 #[v,.bool y,.pointer (some ⟨g,0,none⟩)] w λe w'=>e=.returned (.bool (rm m a y))/\K w w':=by
 have HR:Hid (rm m a y=m.cG.any λv=>decide (v=⟨a,y⟩)):=ae rfl
 obtain⟨T,v2,X,U,W,v6,rfl,j,F,G,I,A,h6⟩:=h
 have:=ae j
 obtain⟨u,c1,rfl⟩:=av j
 obtain⟨O,c2,rfl⟩:=av F
 obtain⟨M,c3,rfl⟩:=av G
 obtain⟨N,c4,rfl⟩:=av I
 obtain⟨Q,c5,rfl⟩:=av A
 obtain⟨C,L,rfl⟩:=av h6
 generalize B:kj m (.slice u m.cG.length c1) (.slice O m.asks.length c2) (.slice M m.entries.length c3) (.slice N m.eD.length c4) (.slice Q m.dF.length c5) (.slice C m.ends.length L)=D
 have hb:=ah.new w 156 D
 have t:=hb.aS
 subst B
 have E:=hg.ay t
 have J:=ae (an4 m.cG ⟨a,y⟩ _ _ (bj j t) S)
 generalize rm m a y=R at *
 go_in
 go_upto_region 1 with fail
 generalize w.alloc _=V at *
 have q:=hb.cell
 have:=E.cell
 go_wp2_with fail
 apply cF J.aa t
 intro Z k2 H
 go_wp2
 go_ret
 exact⟨fJ,H⟩
theorem ac2 kids a v w(h:aq yh kids v w)(hlen:kids.length<=1000000)(hv:∀m∈kids,m.cG.length<=1000000) :
 Calls prog 153 #[v,cA a] w λe w'=>e=.returned (.int .i64 (jk kids a))/\K w w':=by
 have HR:Hid (jk kids a=if kids.any (λk=>rm k a false)then 2 else if kids.all (λk=>rm k a true)then 1 else 0):=ae rfl
 obtain⟨A,c,rfl,hl,-⟩:=h
 have HV:=ae hv
 have hb:=ah.new w 26 #[.int .i64 a.1,.int .u64 a.2.1,.int .u64 a.2.2]
 have u:=hb.aS
 generalize jk kids a=R at *
 go_in
 go_wp2
 go_step3
 generalize w.alloc _=L at *
 generalize w.heap.size=ga at hb⊢
 have kk:=K.rf L
 go_wp2_with fail
 go_step3
 go_wp2_with fail
 go_loopw [6,8,12] (fun o _ i W=>∃j:Nat,j<=kids.length/\i=.int .i64 j/\(∃z:Int,o=.int .i64 z/\Hid (z=if (kids.take j).all (fun k=>rm k a true)then 1 else 0))/\Hid ((kids.take j).any (fun k=>rm k a false)=false)/\K L W) (fun _ _ i _=>kids.length-(intOf i).toNat)
 case atStart=>exact⟨0,af,rfl,⟨1,rfl,ae aj⟩,ae aj,kk⟩
 case round =>
  obtain⟨j,hj,rfl,⟨z,rfl,HZ⟩,U,kr⟩:=hrel;by_cases t:j<kids.length
  ·have aO:(j:Int)<kids.length:=af;obtain⟨X,T,cs1,rfl,iD,hr1,d0,dd⟩:=ed hl j t ax;have HB:=ae (yp (λk=>rm k a false) kids j t);have HA:=ae (yq (λk=>rm k a false) kids (j+1));have HL:=ae (H8 (λk=>rm k a true) kids j t);have hmv:=HV.aa _ (bT t);generalize kids[j]=m at *;have pk:=u.tr kr;obtain⟨I,Z,N,J,M,v6,rfl,g1,F,g3,Y,H,g6⟩:=hr1 w (K.rf w);have HM:Hid (∀W,K w W->lI m (.agg (kj m I Z N J M v6)) W):=ae λW k=>⟨_,_,_,_,_,_,rfl,bj g1 k,bj F k,bj g3 k,bj Y k,bj H k,bj g6 k⟩
   have:∀i,i<8->wr.cell? ⟨X,T+j*8+i,none⟩=(kj m I Z N J M v6)[i]?:=λi hi=>(dd wr pk i hi).trans Array.getElem?_toList
   have:wr.cell? ⟨X,T+j*8,none⟩=some (.int .i64 m.kind):=d0 wr pk;obtain⟨A1,c1,rfl⟩:=av g1;obtain⟨A2,c2,rfl⟩:=av F;obtain⟨A3,c3,rfl⟩:=av g3;obtain⟨A4,c4,rfl⟩:=av Y;obtain⟨A5,c5,rfl⟩:=av H;obtain⟨A6,c6,rfl⟩:=av g6;have B:=ah.new wr 156 (kj m (.slice A1 m.cG.length c1) (.slice A2 m.asks.length c2) (.slice A3 m.entries.length c3) (.slice A4 m.eD.length c4) (.slice A5 m.dF.length c5) (.slice A6 m.ends.length c6));have k3:=B.aS;go_upto_region 6 with fail;generalize wr.alloc _=S at *;have D:=kr.tr k3;have:=B.cell;have C1:=ae λW (k:K S W) y=>aqo m a y _ ga W (HM.aa W (u.tr (D.tr k))) (hb.ay (D.tr k)) hmv
   go_wp2_with fail
   apply cF (C1.aa S (K.rf _) false) D;intro w4 O E;have:=(B.ay O).cell;cases hb0:rm m a false;rotate_left
   ·have HF:Hid (R=2):=ae (by rw[HR.aa,if_pos (HA.aa (by rw[HB.aa,hb0];simp))]);have kF:=u.tr E;go_wp2;rw[ig];exact Cf
   have V:Hid ((kids.take (j+1)).any (λk=>rm k a false)=false):=ae (by rw[HB.aa,U.aa,hb0];rfl);go_wp2_with fail
   apply cF (C1.aa w4 O true) E;intro w5 k5 mh;cases aR:rm m a true
   ·have C:Hid ((0:Int)=if (kids.take (j+1)).all (λk=>rm k a true)then 1 else 0):=ae (by rw[HL.aa,aR];simp);go_wp2;go_roundw
    case rel=>exact⟨j+1,af,bD,⟨0,rfl,C⟩,V,mh⟩
    case measure=>simp[intOf];omega
   ·have C:Hid (z=if (kids.take (j+1)).all (λk=>rm k a true)then 1 else 0):=ae (by rw[HL.aa,aR,HZ.aa];simp);go_wp2;go_roundw
    case rel=>exact⟨j+1,af,bD,⟨z,rfl,C⟩,V,mh⟩
    case measure=>simp[intOf];omega
  ·have aO:¬(j:Int)<kids.length:=af;have HF:Hid (R=z):=ae (by
    have G:=U.aa;have Q:=HZ.aa;rw[gI af]at G Q;rw[HR.aa,G,Q];rfl)
   have kF:=u.tr kr;go_wp2;exact Cf
theorem arT l v q(f:Nat) cs w(h:aq aW l v w)(Q:l.length<=1000000)(S:∀args W,(callFunc f args).run prog W=.ok (.enter f args) W)
 (N:∀W,K w W->∀x∈l,∀u,dx x u W->Calls prog f (#[u]++cs) W λe W'=>e=.returned (.bool (q x))/\K W W') :
 Calls prog 236 #[v,.func (.func f) #[] cs] w λe w'=>∃i:Int,e=.returned (.int .i64 i)/\K w w'/\decide (0<=i)=l.any q:=by
 have F:=K.rf w
 obtain⟨A,c,rfl,h,-⟩:=h
 have I:=ae N
 go_in
 go_wp2_with fail
 go_loopw [5,8] (fun _ i wr=>∃k:Nat,k<=l.length/\i=.int .i64 k/\Hid ((l.take k).any q=false)/\K w wr) (fun _ i _=>l.length-(intOf i).toNat)
 case atStart=>exact⟨0,af,rfl,ae aj,F⟩
 case round =>
  obtain⟨k,hk,rfl,hall,kr⟩:=hrel;by_cases y:k<l.length
  ·have fe:(k:Int)<l.length:=af;obtain⟨E,C,O,rfl,R,G,D,d⟩:=ed h k y ax;have HB:=ae (yp q l k y);have HA:=ae (yq q l (k+1));have hm:=bT y;generalize l[k]=t at *;obtain⟨vf,B,rfl,H,M⟩:=G wr kr;have D:∀W,K w W->W.cell? ⟨E,C+k*8,none⟩=some (.int .i64 t.kind):=D;have d:∀W,K w W->∀i,i<8->W.cell? ⟨E,C+k*8+i,none⟩=(aE t vf B)[i]?:=λW j L=>λJ=>(d W j L J).trans Array.getElem?_toList
   have C1:=ae (I.aa wr kr t hm (.agg (aE t vf B)) ⟨vf,B,rfl,H,M⟩);exact WK
  ·exact WL
theorem O3 l v q(f:Nat) cs w(h:aq aW l v w)(t:l.length<=1000000)(j:∀args W,(callFunc f args).run prog W=.ok (.enter f args) W)
 (D:∀W,K w W->∀x∈l,∀u,dx x u W->Calls prog f (#[u]++cs) W λe W'=>e=.returned (.bool (q x))/\K W W') :
 Calls prog 142 #[v,.func (.func f) #[] cs] w λe w'=>e=.returned (.bool (l.any q))/\K w w':=by
 have y:=ae (arT l v q f cs w h t j D)
 obtain⟨A,c,rfl⟩:=av h
 generalize l.any q=R at *
 go_in
 go_wp2_with fail
 refine y.aa.mono ?_
 rintro e E⟨i,rfl,B,C⟩
 have HR:=ae C
 go_wp2
 go_ret
 exact⟨WM,B⟩
theorem apt x a v g w(h:dx x v w)(hg:ah w g 26 #[.int .i64 a.1,.int .u64 a.2.1,.int .u64 a.2.2]) :
 Calls prog 286 #[v,.pointer (some ⟨g,0,none⟩)] w λe w'=>e=.returned (.bool (gZ a x))/\K w w':=by
 obtain⟨vf,F,rfl,B,C⟩:=h
 obtain⟨A,c,rfl⟩:=b5 B
 obtain⟨D,d,rfl⟩:=av C
 have j:=ae (KY a x)
 have q:=hg.cells
 have:=λo=>(K.rf w).al o
 obtain⟨y,E,t⟩:=a
 obtain⟨k,b,l,s,cl,u,f,es⟩:=x
 simp only at q j⊢
 generalize gZ (y,E,t) ⟨k,b,l,s,cl,u,f,es⟩=R at *
 go_in
 go_wp2
 all_goals
  go_ret
  refine⟨?_,(K.rf w).al _⟩
  rw[j.aa]
  show Ending.returned (.bool _)=Ending.returned (.bool _)
  first|(simp_all;done)|(simp_all;omega)|(congr 2;rw[Bool.eq_iff_iff];simp_all;omega)
theorem aoK x a v g w(h:dx x v w)(hg:ah w g 26 #[.int .i64 a.1,.int .u64 a.2.1,.int .u64 a.2.2]) :
 Calls prog 300 #[v,.pointer (some ⟨g,0,none⟩)] w λe w'=>e=.returned (.bool (gZ a x))/\K w w':=by
 obtain⟨vf,F,rfl,B,C⟩:=h
 obtain⟨A,c,rfl⟩:=b5 B
 obtain⟨D,d,rfl⟩:=av C
 have j:=ae (KY a x)
 have q:=hg.cells
 have:=λo=>(K.rf w).al o
 obtain⟨y,E,t⟩:=a
 obtain⟨k,b,l,s,cl,u,f,es⟩:=x
 simp only at q j⊢
 generalize gZ (y,E,t) ⟨k,b,l,s,cl,u,f,es⟩=R at *
 go_in
 go_wp2
 all_goals
  go_ret
  refine⟨?_,(K.rf w).al _⟩
  rw[j.aa]
  show Ending.returned (.bool _)=Ending.returned (.bool _)
  first|(simp_all;done)|(simp_all;omega)|(congr 2;rw[Bool.eq_iff_iff];simp_all;omega)
theorem arU x y v E C g w(h:dx x v w)(hg:ah w g 126 (aE y E C)) :
 Calls prog 157 #[v,.pointer (some ⟨g,0,none⟩)] w λe w'=>e=.returned (.bool (gZ (au y) x))/\K w w':=by
 obtain⟨vf,J,rfl,F,G⟩:=h
 obtain⟨A,c,rfl⟩:=b5 F
 obtain⟨D,d,rfl⟩:=av G
 have t:Hid (gZ (au y) x=(decide (x.br=y.br)&&decide (x.life=y.life)&&decide (x.bY=y.bY))):=ae (KY (y.br,y.life,y.bY) x)
 have q:=hg.cells
 have:=λo=>(K.rf w).al o
 generalize gZ (au y) x=R at *
 obtain⟨I,H,B,j,O,N,L,yes⟩:=y
 obtain⟨k,b,l,s,cl,u,f,es⟩:=x
 simp only at q t⊢
 go_in
 go_wp2
 all_goals
  go_ret
  refine⟨?_,(K.rf w).al _⟩
  rw[t.aa]
  show Ending.returned (.bool _)=Ending.returned (.bool _)
  rw[show decide (l=B)=decide ((l:Int)=B)from decide_eq_decide.2 af,show decide (s=j)=decide ((s:Int)=j)from decide_eq_decide.2 af]
  simp[*]
theorem aqp x y v E C g w(h:dx x v w)(hg:ah w g 126 (aE y E C)) :
 Calls prog 143 #[v,.pointer (some ⟨g,0,none⟩)] w λe w'=>e=.returned (.bool (gZ (au y) x))/\K w w':=by
 obtain⟨vf,J,rfl,F,G⟩:=h
 obtain⟨A,c,rfl⟩:=b5 F
 obtain⟨D,d,rfl⟩:=av G
 have t:Hid (gZ (au y) x=(decide (x.br=y.br)&&decide (x.life=y.life)&&decide (x.bY=y.bY))):=ae (KY (y.br,y.life,y.bY) x)
 have q:=hg.cells
 have:=λo=>(K.rf w).al o
 generalize gZ (au y) x=R at *
 obtain⟨I,H,B,j,O,N,L,yes⟩:=y
 obtain⟨k,b,l,s,cl,u,f,es⟩:=x
 simp only at q t⊢
 go_in
 go_wp2
 all_goals
  go_ret
  refine⟨?_,(K.rf w).al _⟩
  rw[t.aa]
  show Ending.returned (.bool _)=Ending.returned (.bool _)
  rw[show decide (l=B)=decide ((l:Int)=B)from decide_eq_decide.2 af,show decide (s=j)=decide ((s:Int)=j)from decide_eq_decide.2 af]
  simp[*]
theorem acv l a v w(h:aq aW l v w)(C:l.length<=1000000) :
 Calls prog 231 #[v,cA a] w λe w'=>e=.returned (.bool (bU l a))/\K w w':=by
 have hb:=ah.new w 26 #[.int .i64 a.1,.int .u64 a.2.1,.int .u64 a.2.2]
 have j:=hb.aS
 have HR:Hid (bU l a=l.any (gZ a)):=ae rfl
 have H:=ae h
 obtain⟨A,c,rfl⟩:=av h
 generalize bU l a=R at *
 go_in
 go_upto_region 1 with fail
 generalize w.alloc _=E at *
 generalize w.heap.size=t at hb⊢
 have B:=ae (O3 l _ (gZ a) 286 #[.pointer (some ⟨t,0,none⟩)] E (bj H.aa j) C (λ_ _=>cC) (λW k x _ u y=>apt x a u t W y (hb.ay k)))
 go_wp2_with fail
 apply cF B.aa j
 intro G F D
 go_wp2
 go_ret
 exact⟨fJ,D⟩
theorem ab1 l a v w(h:aq aW l v w)(C:l.length<=1000000) :
 Calls prog 262 #[v,cA a] w λe w'=>e=.returned (.bool (bU l a))/\K w w':=by
 have hb:=ah.new w 26 #[.int .i64 a.1,.int .u64 a.2.1,.int .u64 a.2.2]
 have j:=hb.aS
 have HR:Hid (bU l a=l.any (gZ a)):=ae rfl
 have H:=ae h
 obtain⟨A,c,rfl⟩:=av h
 generalize bU l a=R at *
 go_in
 go_upto_region 1 with fail
 generalize w.alloc _=E at *
 generalize w.heap.size=t at hb⊢
 have B:=ae (O3 l _ (gZ a) 300 #[.pointer (some ⟨t,0,none⟩)] E (bj H.aa j) C (λ_ _=>cC) (λW k x _ u y=>aoK x a u t W y (hb.ay k)))
 go_wp2_with fail
 apply cF B.aa j
 intro G F D
 go_wp2
 go_ret
 exact⟨fJ,D⟩
def Mv{α:Type}(Y:Nat->Prop)(base:Nat)(T e:TypeId)(S:dV α)(l:List α)(t:Value)(j:Nat)(w w':World):Prop :=
 ∃v',ah w' j T #[v']/\aC Y base e S l v' w'/\(∀k,v'.ownBlock=some k->t.ownBlock=some k∨w.heap.size<=k)/\ag (λk=>k=j∨t.ownBlock=some k) w w'
theorem arV Y base o D j x v w(h:dx x v w)(hs:ew x)(hb:ah w j 43 #[D])(A:aC Y base 126 aW o D w)(hY:∀k,Y k->k<w.heap.size)(Hi:Y j)(O:base<=w.heap.size)(eX:j<base)(hlen:o.length<=1000000) :
 Calls prog 233 #[v,.pointer (some ⟨j,0,none⟩)] w λe w'=>e=.returned (.tuple #[])/\Mv Y base 43 126 aW (o++[x]) D j w w':=by
 have zF:=ae func233
 have U:=ae ntmps233
 have HE:=ae λW (k:K w W)=>LR h k
 obtain⟨vf,ve,rfl,hf,he⟩:=h
 obtain⟨Af,Z,rfl⟩:=b5 hf
 obtain⟨T,J,rfl⟩:=av he
 have E:=ah.new w 126 (aE x (.slice Af x.f.length Z) (.slice T x.es.length J))
 have k1:=E.aS
 obtain⟨y,B,rfl⟩:=A.slice
 have G:=hb.ay k1
 have fI:=A.st k1
 have:=A.blk
 go_enter zF.aa,U.aa
 go_upto_region 1 with fail
 generalize w.alloc _=H at *
 have qx:=E.cells
 have qo:=G.cells
 have qs:=And.intro qx qo
 refine dK 4 ?_
 iterate 2 refine ar.i ?_
 refine ar.op (Mt H.heap.size x) (WA _ _) (λV W kW hp=>?_) ?_
 ·(try simp only[cz,aN,aQ,bV,bW,aJ]at hp)
  exact ahL
 refine ar.row (N:=λk=>k<H.heap.size) (S:=aW) 43 _ 8 96 oZ rfl ax _ x rfl rfl (λV W kW hp=>?_) ?_
 ·exact WC
 intro V W kW hA
 simp only[aN,aQ,b6,aJ,Nat.reduceAdd]at hA
 obtain⟨e0,e1,h2,h3,-⟩:=hA
 have x9:=fI.st kW
 have L:=k1.size
 refine aH.push _ _ 43 _ 8 96 oZ rfl rfl rfl _ o x fk x9 ?_ af (bo O (bo L kW.size)) ?_
 ·exact ahM
 intro t I bE F eS bq
 obtain⟨u,J5⟩:∃u,Hid (u=o++[x]):=⟨_,ae rfl⟩
 rw[<- J5.aa]at bE
 have R:=G.ay kW
 have C:=R.grown F aB
 have q9:=C.cell
 have z9:=C.frozen
 have:t.oneCell'=true:=ahN
 have M:=ae ((ag.aU (k1.tr kW) _).tr ((ag.eP (X:=λk=>k=j∨(Value.slice y o.length B).ownBlock=some k) F λk e=>.inr e).tr (ag.bK (X:=λk=>k=j∨(Value.slice y o.length B).ownBlock=some k) (.inl rfl) 0 t)))
 have HB:Hid (ah (I.setCell ⟨j,0,none⟩ t) j 43 #[t]):=ae (C.aP 0 t)
 have zG:=ae (bE.to (X:=λk=>k=j) (ag.bK (X:=λk=>k=j) rfl 0 t) (λk hk=>Qx) (λk hk e=>WO) λk _ hk=>.inl hk)
 have Q:Hid (∀k,t.ownBlock=some k->(Value.slice y o.length B).ownBlock=some k∨w.heap.size<=k):=ae λk hk=>by exact ahO
 obtain⟨A9,c9,rfl⟩:=bE.slice
 refine aH.skip (I.setCell ⟨j,0,none⟩ (.slice A9 u.length c9)) rfl ahP ?_
 refine aH.nil ?_
 simp only[fT,Act.put,rW,rh,qZ,Nat.reduceAdd,ba,Nat.reduceEqDiff,reduceIte]
 go_wp2
 go_end0
 exact⟨rfl,_,HB.aa,WQ,Q.aa,M.aa⟩
theorem arW Y base o D j x v w(h:dx x v w)(hs:ew x)(hb:ah w j 43 #[D])(A:aC Y base 126 aW o D w)(hY:∀k,Y k->k<w.heap.size)(Hi:Y j)(O:base<=w.heap.size)(eX:j<base)(hlen:o.length<=1000000) :
 Calls prog 234 #[v,.pointer (some ⟨j,0,none⟩)] w λe w'=>e=.returned (.tuple #[])/\Mv Y base 43 126 aW (o++[x]) D j w w':=by
 have zF:=ae func234
 have U:=ae ntmps234
 have HE:=ae λW (k:K w W)=>LR h k
 obtain⟨vf,ve,rfl,hf,he⟩:=h
 obtain⟨Af,Z,rfl⟩:=b5 hf
 obtain⟨T,J,rfl⟩:=av he
 have E:=ah.new w 126 (aE x (.slice Af x.f.length Z) (.slice T x.es.length J))
 have k1:=E.aS
 obtain⟨y,B,rfl⟩:=A.slice
 have G:=hb.ay k1
 have fI:=A.st k1
 have:=A.blk
 go_enter zF.aa,U.aa
 go_upto_region 1 with fail
 generalize w.alloc _=H at *
 have qx:=E.cells
 have qo:=G.cells
 have qs:=And.intro qx qo
 refine dK 4 ?_
 iterate 2 refine ar.i ?_
 refine ar.op (Mt H.heap.size x) (WA _ _) (λV W kW hp=>?_) ?_
 ·(try simp only[cz,aN,aQ,bV,bW,aJ]at hp)
  exact ahL
 refine ar.row (N:=λk=>k<H.heap.size) (S:=aW) 43 _ 8 96 oZ rfl ax _ x rfl rfl (λV W kW hp=>?_) ?_
 ·exact WC
 intro V W kW hA
 simp only[aN,aQ,b6,aJ,Nat.reduceAdd]at hA
 obtain⟨e0,e1,h2,h3,-⟩:=hA
 have x9:=fI.st kW
 have L:=k1.size
 refine aH.push _ _ 43 _ 8 96 oZ rfl rfl rfl _ o x fk x9 ?_ af (bo O (bo L kW.size)) ?_
 ·exact ahM
 intro t I bE F eS bq
 obtain⟨u,J5⟩:∃u,Hid (u=o++[x]):=⟨_,ae rfl⟩
 rw[<- J5.aa]at bE
 have R:=G.ay kW
 have C:=R.grown F aB
 have q9:=C.cell
 have z9:=C.frozen
 have:t.oneCell'=true:=ahN
 have M:=ae ((ag.aU (k1.tr kW) _).tr ((ag.eP (X:=λk=>k=j∨(Value.slice y o.length B).ownBlock=some k) F λk e=>.inr e).tr (ag.bK (X:=λk=>k=j∨(Value.slice y o.length B).ownBlock=some k) (.inl rfl) 0 t)))
 have HB:Hid (ah (I.setCell ⟨j,0,none⟩ t) j 43 #[t]):=ae (C.aP 0 t)
 have zG:=ae (bE.to (X:=λk=>k=j) (ag.bK (X:=λk=>k=j) rfl 0 t) (λk hk=>Qx) (λk hk e=>WO) λk _ hk=>.inl hk)
 have Q:Hid (∀k,t.ownBlock=some k->(Value.slice y o.length B).ownBlock=some k∨w.heap.size<=k):=ae λk hk=>by exact ahO
 obtain⟨A9,c9,rfl⟩:=bE.slice
 refine aH.skip (I.setCell ⟨j,0,none⟩ (.slice A9 u.length c9)) rfl ahP ?_
 refine aH.nil ?_
 simp only[fT,Act.put,rW,rh,qZ,Nat.reduceAdd,ba,Nat.reduceEqDiff,reduceIte]
 go_wp2
 go_end0
 exact⟨rfl,_,HB.aa,WQ,Q.aa,M.aa⟩
theorem arX Y base o G j x v w(h:dx x v w)(hb:ah w j 44 #[G])(D:aC Y base 26 bZ o G w)(Hi:Y j)(U:base<=w.heap.size)(eX:j<base)(hlen:o.length<=1000000) :
 Calls prog 235 #[v,.pointer (some ⟨j,0,none⟩)] w λe w'=>e=.returned (.tuple #[])/\Mv Y base 44 26 bZ (o++[au x]) G j w w':=by
 obtain⟨vf,ve,rfl,hf,he⟩:=h
 obtain⟨Af,cf,rfl⟩:=b5 hf
 obtain⟨Ae,O,rfl⟩:=av he
 have I:=ah.new w 126 (aE x (.slice Af x.f.length cf) (.slice Ae x.es.length O))
 have B:=I.aS
 obtain⟨y,A,rfl⟩:=D.slice
 have L:=hb.ay B
 have fI:=D.st B
 have:=D.blk
 go_in
 go_upto_region 1 with fail
 generalize w.alloc _=M at *
 have R:=B.size
 have:=I.cell
 have:=L.cell
 have C:=K.new M (.cells (dh (au x)) 26)
 have Q:=fI.st C
 have hr:=ez.new (S:=bZ) (e:=26) (x:=au x) (v:=.agg (dh (au x))) (w:=M) (N:=λk=>Y k∨(Value.slice y o.length A).ownBlock=some k) (λW u=>rfl) 0 (eE _)
 go_wp2_with (at_builtin;refine jz rfl _ _ 44 rfl _ 3 24 wu rfl rfl Q _ rfl (au x) ?p1 ?p2 ?p3 ?_)
 case p1=>exact hr.less λk hk=>hk
 case p2=>omega
 case p3=>exact bo U (bo R C.size)
 intro t w9 E J eS bq
 obtain⟨H,J5⟩:∃H,Hid (H=o++[au x]):=⟨_,ae rfl⟩
 rw[<- J5.aa]at E
 have Z:=L.ay C
 have F:=Z.grown J aB
 have:=F.cell
 have:=F.frozen
 have T:=ae ((ag.aU (B.tr C) _).tr ((ag.eP (X:=λk=>k=j∨(Value.slice y o.length A).ownBlock=some k) J λk e=>.inr e).tr (ag.bK (X:=λk=>k=j∨(Value.slice y o.length A).ownBlock=some k) (.inl rfl) 0 t)))
 have HB:Hid (ah (w9.setCell ⟨j,0,none⟩ t) j 44 #[t]):=ae (F.aP 0 t)
 have zG:=ae (E.to (X:=λk=>k=j) (ag.bK (X:=λk=>k=j) rfl 0 t) (λk hk=>Qx) (λk hk e=>aB) λk _ hk=>.inl hk)
 have V:Hid (∀k,t.ownBlock=some k->(Value.slice y o.length A).ownBlock=some k∨w.heap.size<=k):=ae λk hk=>by
  grind
 obtain⟨A9,c9,rfl⟩:=E.slice
 go_wp2
 go_end0
 exact⟨rfl,_,HB.aa,WQ,V.aa,T.aa⟩
theorem avO s op:∀(l:List kY) (o:List aT),o.length<=16->(l.foldl (lr s op) o).length<=16:=by
 intro l
 induction l with
 | nil=>intro o h;exact h
 | cons x l j =>
  grind [lr]
theorem atP s op:∀(l:List kY) (o:List aT),16<=o.length->l.foldl (lr s op) o=o:=by
 intro l
 induction l with
 | nil=>intro o h;rfl
 | cons x l j =>
  grind [lr]
theorem arY s op k vl vp E Z vk w(hs:nB s (.agg (cJ s vl vp E)) w)(I:aq aW op Z w)(hk:lI k vk w)
 (jd:s.list.length<=1000000/\s.prom.length<=1000000) (hlo:op.length<=1000000) (hv:k.cG.length<=1000000) :
 Calls prog 165 #[.agg (cJ s vl vp E),Z,vk] w λe w'=>∃v',e=.returned v'/\aC (λk=>k<w.heap.size) w.heap.size 26 bZ (tV s op k) v' w'/\K w w':=by
 have T:=ae λW (k:K w W)=>LS hs k
 have CH:=ae λW (k:K w W) a=>DP s a (.agg (cJ s vl vp E)) W (T.aa W k) jd.1
 have CP:=ae λW (k:K w W) a=>Ku s a (.agg (cJ s vl vp E)) W (T.aa W k) jd.2
 have CO:=ae λW (k:K w W) a=>ab1 op a Z W (bj I k) hlo
 have HE:Hid (tV s op k=k.cG.foldl (lr s op) []):=ae rfl
 have y7:=ae λj=>avO s op (k.cG.take j) [] aj
 have XZ:=ae λj (h:16<=((k.cG.take j).foldl (lr s op) []).length)=>atP s op (k.cG.drop j) _ h
 obtain⟨JA,JB,ZW,e,h1,h2,h3⟩:=hs
 simp at e
 obtain⟨rfl,rfl,rfl⟩:=e
 obtain⟨Al,cl,rfl⟩:=av h1
 obtain⟨Ap,cp,rfl⟩:=av h2
 obtain⟨Ab,cb,rfl⟩:=av h3
 obtain⟨Ao,co,rfl⟩:=av I
 obtain⟨v1,v2,v3,v4,v5,v6,rfl,g1,g2,g3,g4,g5,g6⟩:=hk
 obtain⟨A1,c1,rfl,hl,-⟩:=g1
 obtain⟨A2,c2,rfl⟩:=av g2
 obtain⟨A3,c3,rfl⟩:=av g3
 obtain⟨A4,c4,rfl⟩:=av g4
 obtain⟨A5,c5,rfl⟩:=av g5
 obtain⟨A6,c6,rfl⟩:=av g6
 generalize tV s op k=R at *
 generalize NM:cJ s (.slice Al s.list.length cl) (.slice Ap s.prom.length cp) (.slice Ab s.ab.length cb)=F at *
 generalize ZX:kj k (.slice A1 k.cG.length c1) (.slice A2 k.asks.length c2) (.slice A3 k.entries.length c3) (.slice A4 k.eD.length c4) (.slice A5 k.dF.length c5) (.slice A6 k.ends.length c6)=X at *
 have C:=K.kK w (.cells F 46) (.cells X 156)
 have hb:=(ah.new w 46 F).alloc (.cells X 156)
 have G:=ah.new (w.alloc (.cells F 46)) 156 X
 have hz:(w.alloc (.cells F 46)).heap.size=w.heap.size+1:=aj
 rw[hz]at G
 subst NM ZX
 clear h1 h2 h3 I g2 g3 g4 g5 g6 T hz
 go_in
 go_wp2
 go_step3
 generalize World.alloc (World.alloc w _) _=B at *
 generalize O:w.heap.size=lo at hb G⊢
 have lL:=ae O
 have hz1:lo<=B.heap.size:=by rw[<- O];exact C.size
 clear O
 have Q:=K.rf B
 have:=hb.cells
 have:=G.cells B Q
 have lJ:=aC.nil (λk=>k<lo) B.heap.size 26 bZ B
 clear hb G
 go_wp2_with fail
 go_step3
 go_wp2_with fail
 go_loopw [7,9,13] (fun o _ i W=>∃j:Nat,j<=k.cG.length/\i=.int .i64 j/\aC (fun k=>k<lo) B.heap.size 26 bZ ((k.cG.take j).foldl (lr s op) []) o W/\K B W) (fun _ _ i _=>k.cG.length-(intOf i).toNat)
 case atStart=>exact⟨0,af,rfl,lJ,Q⟩
 case round =>
  clear lJ Q;obtain⟨j,hj,rfl,D,kr⟩:=hrel;have hpl:=y7.aa j;by_cases hlt:j<k.cG.length
  ·have aO:(j:Int)<k.cG.length:=af;obtain⟨b1,o1,cs1,rfl,iD,hr1,d0,dd⟩:=ed hl j hlt ax;have HF:=ae (fold_succ (lr s op) k.cG [] j hlt);have Y:=ae (XZ.aa j);have V:=ae (show k.cG.foldl (lr s op) []=(k.cG.drop j).foldl (lr s op) ((k.cG.take j).foldl (lr s op) []) by rw[<- List.foldl_append,List.take_append_drop]);generalize k.cG[j]=x at *;generalize (k.cG.take j).foldl (lr s op) []=P at *;obtain⟨A,ic⟩:∃A,Hid (A=(k.cG.take (j+1)).foldl (lr s op) []):=⟨_,ae rfl⟩;replace HF:Hid (A=lr s op P x):=ae (ic.aa.trans HF.aa);obtain rfl:=hr1 w (K.rf w);have pk:=C.tr kr;obtain⟨BJ,zL,rfl⟩:=D.slice;have q9:∀i,i<4->wr.cell? ⟨b1,o1+j*4+i,none⟩=(gV x)[i]?:=λi hi=>(dd wr pk i hi).trans Array.getElem?_toList
   have q0:wr.cell? ⟨b1,o1+j*4,none⟩=some (.int .i64 x.id.1):=d0 wr pk;have hx:=ah.new wr 225 (gV x);have k3:=hx.aS;clear dd d0 iD hr1;go_upto_region 5 with fail;have H:=D.st k3;have cO:=kr.tr k3;generalize wr.alloc _=w3 at *;clear q9 q0 D k3 kr pk;by_cases J:16<=P.length
   ·have Gs:(16:Int)<=(P.length:Int):=af;have HR:Hid (R=P):=ae (by rw[HE.aa,V.aa,Y.aa J]);have L:=C.tr cO;clear J HF ic Y V hpl;go_wp2;rw[ig];go_ret;exact⟨_,rfl,by rw[HR.aa,lL.aa];exact H.low hz1,L⟩
   have Gs:¬(16:Int)<=(P.length:Int):=af;have y:=hx.cell;clear J Y V;have C3:=ae (Fo P x.id _ w3 H.aq af);go_wp2_with fail
   apply cF C3.aa cO;intro w4 t gW;have cY:=H.st t;have cH:=hx.ay t;clear H t y C3;have y:=cH.cell;cases hb0:dG P x.id;rotate_left
   ·have HP:Hid (A=P):=ae (by rw[HF.aa];unfold lr;rw[if_neg (by omega),if_pos (by simp[hb0])]);clear y hb0;exact LF
   go_wp2_with fail
   apply cF (CH.aa w4 (C.tr gW) x.id) gW;intro w5 t mh;have dm:=cY.st t;have eB:=cH.ay t;clear cY t y;have y:=eB.cell;cases aR:bU s.list x.id;rotate_left
   ·have HP:Hid (A=P):=ae (by rw[HF.aa];unfold lr;rw[if_neg (by omega),if_pos (by simp[hb0,aR])]);clear y hb0 aR;exact ahQ
   go_wp2_with fail
   apply cF (CP.aa w5 (C.tr mh) x.id) mh;intro w6 t ot;have M:=dm.st t;have jw:=eB.ay t;clear dm t y;have y:=jw.cell;cases hb2:bU s.prom x.id;rotate_left
   ·have HP:Hid (A=P):=ae (by rw[HF.aa];unfold lr;rw[if_neg (by omega),if_pos (by simp[hb0,aR,hb2])]);clear y hb0 aR hb2;go_wp2;go_roundw
    case rel=>exact⟨j+1,af,bD,by rw[<- ic.aa,HP.aa];exact M,ot⟩
    case measure=>simp[intOf];omega
   go_wp2_with fail
   apply cF (CO.aa w6 (C.tr ot) x.id) ot;intro w7 t oY;have U:=M.st t;have pP:=jw.ay t;clear M t y;have y:=pP.cell;cases bP:bU op x.id;rotate_left
   ·have HP:Hid (A=P):=ae axg;clear y hb0 aR hb2 bP;go_wp2;go_roundw
    case rel=>exact⟨j+1,af,bD,by rw[<- ic.aa,HP.aa];exact U,oY⟩
    case measure=>simp[intOf];omega
   have HP:Hid (A=P++[x.id]):=ae axh;clear hb0 aR hb2 bP HF;have hr:=ez.new (S:=bZ) (e:=26) (x:=x.id) (v:=.agg (dh x.id)) (w:=w7) (N:=λk=>k<lo∨(Value.slice BJ P.length zL).ownBlock=some k) (λW u=>rfl) 0 (eE _);have kA:=K.new w7 (.cells (dh x.id) 26);have iU:=U.st kA;have pX:=oY.tr kA;have pV:=pX.size;clear U;go_wp2_with (at_builtin;refine jz rfl _ _ 44 rfl _ 3 24 wu rfl rfl iU _ rfl x.id ?p1 ?p2 ?p3 ?_)
   case p1=>exact hr
   case p2=>omega
   case p3=>exact pV
   intro v9 w9 bE cd eS bq;have wP:=pX.trans bq;clear hr iU cd eS bq;exact WR
  ·have aO:¬(j:Int)<k.cG.length:=af;have HR:Hid (R=(k.cG.take j).foldl (lr s op) []):=ae WS;have L:=C.tr kr;generalize (k.cG.take j).foldl (lr s op) []=P at *;obtain⟨BJ,zL,rfl⟩:=D.slice;go_wp2;go_ret;exact⟨_,rfl,by rw[HR.aa,lL.aa];exact D.low hz1,L⟩
theorem arZ l v q(f:Nat) cs w(h:aq ou l v w)(N:l.length<=1000000)(R:∀args W,(callFunc f args).run prog W=.ok (.enter f args) W)
 (J:∀W,K w W->∀x∈l,Calls prog f (#[.agg (gV x)]++cs) W λe W'=>e=.returned (.bool (q x))/\K W W') :
 Calls prog 251 #[v,.func (.func f) #[] cs] w λe w'=>∃i:Int,e=.returned (.int .i64 i)/\K w w'/\decide (0<=i)=l.any q:=by
 have D:=K.rf w
 obtain⟨A,c,rfl,h,-⟩:=h
 have F:=ae J
 go_in
 go_wp2_with fail
 go_loopw [5,8] (fun _ i wr=>∃k:Nat,k<=l.length/\i=.int .i64 (k:Int)/\Hid ((l.take k).any q=false)/\K w wr) (fun _ i _=>l.length-(intOf i).toNat)
 case atStart=>exact⟨0,af,rfl,ae aj,D⟩
 case round =>
  obtain⟨k,hk,rfl,hall,kr⟩:=hrel;by_cases y:k<l.length
  ·have H:(k:Int)<(l.length:Int):=af;obtain⟨C,B,L,rfl,Q,E,u,d⟩:=ed h k y ax;have HB:=ae (yp q l k y);have HA:=ae (yq q l (k+1));have hm:=bT y;generalize l[k]=t at *;obtain rfl:=E w (K.rf w);have u:∀W,K w W->W.cell? ⟨C,B+k*4,none⟩=some (.int .i64 t.id.1):=u;have d:∀W,K w W->∀i,i<4->W.cell? ⟨C,B+k*4+i,none⟩=(gV t)[i]?:=λW j I=>λG=>(d W j I G).trans Array.getElem?_toList
   have C1:=ae (F.aa wr kr t hm);have M:=u wr kr;have O:=d wr kr;exact WK
  ·have H:¬(k:Int)<(l.length:Int):=af;exact ahR
theorem aqq l v q(f:Nat) cs w(h:aq ou l v w)(t:l.length<=1000000)(j:∀args W,(callFunc f args).run prog W=.ok (.enter f args) W)
 (C:∀W,K w W->∀x∈l,Calls prog f (#[.agg (gV x)]++cs) W λe W'=>e=.returned (.bool (q x))/\K W W') :
 Calls prog 154 #[v,.func (.func f) #[] cs] w λe w'=>e=.returned (.bool (l.any q))/\K w w':=by
 have u:=ae (arZ l v q f cs w h t j C)
 obtain⟨A,c,rfl⟩:=av h
 generalize l.any q=R at *
 go_in
 go_wp2_with fail
 refine u.aa.mono ?_
 rintro e D⟨i,rfl,y,B⟩
 have HR:=ae B
 go_wp2
 go_ret
 exact⟨WM,y⟩
theorem avP(x:kY) a:decide (x.id=a)=(x.id.1==a.1&&(x.id.2.1==a.2.1&&x.id.2.2==a.2.2)):=by
 grind
theorem apu x a g w(hg:ah w g 26 #[.int .i64 a.1,.int .u64 a.2.1,.int .u64 a.2.2]) :
 Calls prog 155 #[.agg (gV x),.pointer (some ⟨g,0,none⟩)] w λe w'=>e=.returned (.bool (decide (x.id=a)))/\K w w':=by
 have j:=ae (avP x a)
 have q:=hg.cells
 have:=λo=>(K.rf w).al o
 obtain⟨B,D,t⟩:=a
 obtain⟨⟨u,A,C⟩,y⟩:=x
 simp only at q j⊢
 generalize decide ((u,A,C)=(B,D,t))=R at *
 go_in
 go_wp2
 all_goals
  go_ret
  refine⟨?_,(K.rf w).al _⟩
  rw[j.aa]
  show Ending.returned (.bool _)=Ending.returned (.bool _)
  first|(simp_all;done)|(simp_all;omega)|(congr 2;rw[Bool.eq_iff_iff];simp_all;omega)
theorem axi:(prog.info? 225).map (λi=>(i.zero,i.size,i.bytes))=some (some (.agg #[.int .i64 0,.int .u64 0,.int .u64 0,.bool false]),4,32):=by rfl
theorem akH:fS prog 154 225 (.agg #[.int .i64 0,.int .u64 0,.int .u64 0,.bool false]) 4 32:=⟨underlying154,axi,rfl,ax⟩
theorem ar0 kids:∀(l:List aL) (o:List kY),o.length<=16->(l.foldl (qU kids) o).length<=16:=by
 intro l
 induction l with
 | nil=>intro o h;exact h
 | cons x l j =>
  grind [qU]
theorem ar1:∀(l:List aT) (o:List kY),o.length<=16->(l.foldl mr o).length<=16:=by
 intro l
 induction l with
 | nil=>intro o h;exact h
 | cons x l j =>
  grind [mr]
theorem aqr:∀(l:List aT) (o:List kY),16<=o.length->l.foldl mr o=o:=by
 intro l
 induction l with
 | nil=>intro o h;rfl
 | cons x l j =>
  grind [mr]
theorem aqs prom fB kids vp vf X w(hp:aq aW prom vp w)(I:aq bZ fB vf w)(hk:aq yh kids X w)
 (hlp:prom.length<=1000000) (uB:fB.length<=1000000) (hlk:kids.length<=1000000) (hv:∀m∈kids,m.cG.length<=1000000) :
 Calls prog 91 #[vp,vf,X] w λe w'=>∃v',e=.returned v'/\aC (λk=>k<w.heap.size) w.heap.size 225 ou (IX prom fB kids) v' w'/\K w w':=by
 have CS:=ae λW (k:K w W) a=>ac2 kids a X W (bj hk k) hlk hv
 have HE:Hid (IX prom fB kids=fB.foldl mr (prom.foldl (qU kids) [])):=ae rfl
 have y7:=ae λj=>ar0 kids (prom.take j) [] aj
 have azh:=ae λj o ho=>ar1 (fB.take j) o ho
 have XZ:=ae λj o (h:16<=((fB.take j).foldl mr o).length)=>aqr (fB.drop j) _ h
 obtain⟨Ap,cp,rfl,hl,-⟩:=hp
 obtain⟨Ar,cr,rfl,fg,-⟩:=I
 obtain⟨Ak,ck,rfl⟩:=av hk
 generalize IX prom fB kids=R at *
 have kk:=K.rf w
 have lJ:=aC.nil (λk=>k<w.heap.size) w.heap.size 225 ou w
 go_in
 go_wp2
 go_step3
 go_wp2_with fail
 go_loopw [7,9,10,15] (fun o _ _ i W=>∃j:Nat,j<=prom.length/\i=.int .i64 j/\aC (fun k=>k<w.heap.size) w.heap.size 225 ou ((prom.take j).foldl (qU kids) []) o W/\K w W) (fun _ _ _ i _=>prom.length-(intOf i).toNat)
 case atStart=>exact⟨0,af,rfl,lJ,kk⟩
 case round =>
  obtain⟨j,hj,rfl,B,kr⟩:=hrel;have hpl:=y7.aa j;by_cases F:j<prom.length
  ·have aO:(j:Int)<prom.length:=af;obtain⟨J,off,cs1,rfl,iD,hrl,d0,d⟩:=ed hl j F ax;have y:=ae (fold_succ (qU kids) prom [] j F);generalize prom[j]=x at *;generalize (prom.take j).foldl (qU kids) []=P at *;obtain⟨t,ic⟩:∃t,Hid (t=(prom.take (j+1)).foldl (qU kids) []):=⟨_,ae rfl⟩;replace y:Hid (t=qU kids P x):=ae (ic.aa.trans y.aa);obtain⟨vf,ve,rfl,hf,he⟩:=hrl w (K.rf w);have q9:∀i,i<8->wr.cell? ⟨J,off+j*8+i,none⟩=(aE x vf ve)[i]?:=λi Z=>(d wr kr i Z).trans Array.getElem?_toList
   have q0:wr.cell? ⟨J,off+j*8,none⟩=some (.int .i64 x.kind):=d0 wr kr;have C:=ah.new wr 126 (aE x vf ve);have L:=C.aS;obtain⟨Af,cf,rfl⟩:=b5 hf;obtain⟨Ae,ce,rfl⟩:=av he;obtain⟨Q,T,rfl⟩:=B.slice;go_upto_region 5 with fail;have M:=B.st L;have O:=kr.tr L;generalize wr.alloc _=w3 at *;have q8:=C.cell;have C3:=ae (CS.aa w3 O (au x));go_wp2_with fail
   apply cF C3.aa O;intro E H gW;have cY:=M.st H;have V:=C.ay H;by_cases h0:jk kids (au x)=0
   ·have HP:Hid (t=P):=ae (by rw[y.aa];unfold qU;rw[if_neg (by simp[h0])]);have h0b:(jk kids (au x) != 0)=false:=LD;generalize jk kids (au x)=z at *;exact LF
   have h0b:(jk kids (au x) != 0)=true:=Lb;by_cases D:P.length<16;rotate_left
   ·have Y:¬(P.length:Int)<16:=af;have HP:Hid (t=P):=ae (by rw[y.aa];unfold qU;rw[if_neg (by omega)]);generalize jk kids (au x)=z at *;exact LF
   have Y:(P.length:Int)<16:=af;have HP:Hid (t=P++[⟨au x,jk kids (au x)==1⟩]):=ae (by
    rw[y.aa];unfold qU;rw[if_pos ⟨h0,D⟩];congr 3)
   generalize jk kids (au x)=z at *;have q8:=V.cell;have I:=ez.new (S:=ou) (e:=225) (x:=⟨au x,z==1⟩) (v:=.agg (gV ⟨au x,z==1⟩)) (w:=E) (N:=λk=>k<w.heap.size∨(Value.slice Q P.length T).ownBlock=some k) (λW u=>rfl) 0 (eE _);have G:=K.new E (.cells (gV ⟨au x,z==1⟩) 225);have iU:=cY.st G;have pX:=gW.tr G;have pV:=pX.size;go_wp2_with (at_builtin;refine jz rfl _ _ 154 rfl _ 4 32 akH rfl rfl iU _ rfl ⟨au x,z==1⟩ ?p1 ?p2 ?p3 ?_)
   case p1=>exact I
   case p2=>omega
   case p3=>exact pV
   exact ahS
  ·have aO:¬(j:Int)<prom.length:=af;have HR:Hid (R=fB.foldl mr ((prom.take j).foldl (qU kids) [])):=ae WS;generalize (prom.take j).foldl (qU kids) []=P0 at *;have Mw:=fg;have fI:=B;have k1:=kr;obtain⟨A,rfl⟩:∃o,o=P0:=⟨_,rfl⟩;generalize wr=w1 at *;go_wp2_with fail
   go_step3;go_wp2_with fail
   go_loopw [7,12,41] (fun o _ i W=>∃j:Nat,j<=fB.length/\i=.int .i64 j/\aC (fun k=>k<w.heap.size) w.heap.size 225 ou ((fB.take j).foldl mr A) o W/\K w W) (fun _ _ i _=>fB.length-(intOf i).toNat)
   case atStart=>exact⟨0,af,rfl,fI,k1⟩
   case round =>
    obtain⟨j,hj,rfl,B,kr⟩:=hrel;have:=azh.aa j _ hpl;by_cases F:j<fB.length
    ·have aO:(j:Int)<fB.length:=af;obtain⟨J,o1,cs1,rfl,iD,hr1,d0,dd⟩:=ed Mw j F ax;have y:=ae (fold_succ mr fB A j F);have NN:=ae (XZ.aa j A);have NP:=ae (show fB.foldl mr A=(fB.drop j).foldl mr ((fB.take j).foldl mr A) by rw[<- List.foldl_append,List.take_append_drop]);generalize fB[j]=x at *;generalize (fB.take j).foldl mr A=P at *;obtain⟨t,ic⟩:∃t,Hid (t=(fB.take (j+1)).foldl mr A):=⟨_,ae rfl⟩;replace y:Hid (t=mr P x):=ae (ic.aa.trans y.aa);obtain rfl:=hr1 wr kr;obtain⟨Q,T,rfl⟩:=B.slice;have q9:∀i,i<3->wr.cell? ⟨J,o1+j*3+i,none⟩=(dh x)[i]?:=λi Z=>(dd wr kr i Z).trans Array.getElem?_toList
     have q0:wr.cell? ⟨J,o1+j*3,none⟩=some (.int .i64 x.1):=d0 wr kr;have C:=ah.new wr 26 (dh x);have L:=C.aS;go_upto_region 12 with fail;have M:=B.st L;have O:=kr.tr L;generalize wr.alloc _=w3 at *;generalize wr.heap.size=gx at C⊢;by_cases D:16<=P.length
     ·have Y:(16:Int)<=(P.length:Int):=af;have iT:Hid (R=P):=ae (by rw[HR.aa,NP.aa,NN.aa D]);have U:=O;go_wp2;try rw[ig]
      go_ret;exact⟨_,rfl,by rw[iT.aa];exact M,U⟩
     have Y:¬(16:Int)<=(P.length:Int):=af;have C3:=ae (aqq P _ (λv=>decide (v.id=x)) 155 #[.pointer (some ⟨gx,0,none⟩)] w3 M.aq af (λ_ _=>cC) λW k v _=>apu v x gx W (C.ay k));go_wp2_with fail
     apply cF C3.aa O;intro E H gW;have cY:=M.st H;have V:=C.ay H;cases hb0:P.any λv=>decide (v.id=x)
     rotate_left
     ·have HP:Hid (t=P):=ae (by rw[y.aa];unfold mr;rw[if_neg D,if_pos hb0]);exact LF
     have HP:Hid (t=P++[⟨x,false⟩]):=ae (by rw[y.aa];unfold mr;rw[if_neg D,if_neg (by simp[hb0])]);have q8:=V.cell;have I:=ez.new (S:=ou) (e:=225) (x:=⟨x,false⟩) (v:=.agg (gV ⟨x,false⟩)) (w:=E) (N:=λk=>k<w.heap.size∨(Value.slice Q P.length T).ownBlock=some k) (λW u=>rfl) 0 (eE _);have G:=K.new E (.cells (gV ⟨x,false⟩) 225);have iU:=cY.st G;have pX:=gW.tr G;have iR:=pX;have pV:=iR.size;go_wp2_with (at_builtin;refine jz rfl _ _ 154 rfl _ 4 32 akH rfl rfl iU _ rfl ⟨x,false⟩ ?p1 ?p2 ?p3 ?_)
     case p1=>exact I
     case p2=>omega
     case p3=>exact pV
     intro v9 w9 bE cd eS bq;have wP:=iR.trans bq;exact WR
    ·have aO:¬(j:Int)<fB.length:=af;have iT:Hid (R=(fB.take j).foldl mr A):=ae (by rw[HR.aa,gI (by omega)]);have U:=kr;generalize (fB.take j).foldl mr A=P at *;obtain⟨Q,T,rfl⟩:=B.slice;go_wp2;try rw[ig]
     go_ret;exact⟨_,rfl,by rw[iT.aa];exact B,U⟩
theorem adK s:∀(l:List aL) (p:List aL×List aL),(l.foldl (pw s) p).1.length<=max p.1.length 4/\(l.foldl (pw s) p).2.length<=p.2.length+l.length:=by
 intro l
 induction l with
 | nil=>intro p;simp;omega
 | cons x l j =>
  grind [pw]
theorem aqt s op asks vl vp I Y va w(hs:nB s (.agg (cJ s vl vp I)) w)(E:aq aW op Y w)(ha:aq aW asks va w)
 (sC:∀x∈op,ew x) (NM:∀x∈asks,ew x) (jd:s.list.length<=1000000/\s.ab.length<=1000000) (hlo:op.length<=1000000) (NQ:asks.length<=500000) :
 Calls prog 140 #[.agg (cJ s vl vp I),Y,va] w λe w'=>∃v1 J,e=.returned (.tuple #[v1,J])/\ly w.heap.size w.heap.size 126 aW (oH s op asks).1 v1 126 aW (oH s op asks).2 J w'/\K w w':=by
 have yi:=ae λW (k:K w W)=>LS hs k
 have CH:=ae λW (k:K w W) a=>DP s a (.agg (cJ s vl vp I)) W (yi.aa W k) jd.1
 have CA:=ae λW (k:K w W) a=>Ia s a (.agg (cJ s vl vp I)) W (yi.aa W k) jd.2
 have CO:=ae λW (k:K w W)=>abI op Y W (bj E k) sC af
 have ZY:Hid (oH s op asks=asks.foldl (pw s) (op,[])):=ae rfl
 have y7:=ae λj=>adK s (asks.take j) (op,[])
 have HS:=ae NM
 obtain⟨JA,JB,ZW,e,N,V,h3⟩:=hs
 simp at e
 obtain⟨rfl,rfl,rfl⟩:=e
 obtain⟨Al,cl,rfl⟩:=av N
 obtain⟨Ap,cp,rfl⟩:=av V
 obtain⟨Ab,cb,rfl⟩:=av h3
 obtain⟨Aa,ca,rfl,hl,-⟩:=ha
 obtain⟨Ao,co,rfl⟩:=av E
 generalize oH s op asks=R at *
 have hb:=ah.new w 46 (cJ s (.slice Al s.list.length cl) (.slice Ap s.prom.length cp) (.slice Ab s.ab.length cb))
 have C:=hb.aS
 go_in
 go_wp2
 go_step3
 generalize w.alloc _=L at *
 obtain⟨lo,M⟩:∃lo,Hid (lo=w.heap.size):=⟨_,ae rfl⟩
 generalize nF:w.heap.size=ga at hb⊢
 have qb:=hb.cells
 go_wp2_with fail
 apply bN (CO.aa L C)
 rintro J w2⟨di,k2⟩
 have B:ly lo L.heap.size 126 aW op J 126 aW ([]:List aL) (.slice none 0 0) w2:=ly.Yj (di.less λk hk=>by rw[M.aa]at hk;exact bw hk C.size) (by rw[M.aa];exact C.size)
 have:=qb
 obtain⟨A2,c2,rfl⟩:=B.a.slice
 have kk:=k2
 go_wp2_with fail
 go_step3
 go_wp2_with fail
 go_loopw [8,9,11,16] (fun o1 o2 _ i W=>∃j:Nat,j<=asks.length/\i=.int .i64 j/\ly lo L.heap.size 126 aW ((asks.take j).foldl (pw s) (op,[])).1 o1 126 aW ((asks.take j).foldl (pw s) (op,[])).2 o2 W/\K L W) (fun _ _ _ i _=>asks.length-(intOf i).toNat)
 case atStart=>exact⟨0,af,rfl,fk,kk⟩
 case round =>
  obtain⟨j,hj,rfl,B,kr⟩:=hrel;by_cases U:j<asks.length
  ·have aO:(j:Int)<asks.length:=af;obtain⟨b1,off,cs,rfl,iD,hrl,d0,d⟩:=ed hl j U ax;have D:=ae (fold_succ (pw s) asks (op,[]) j U);have pW:=HS.aa _ (bT U);have hpl:=y7.aa j;generalize asks[j]=x at *;generalize (asks.take j).foldl (pw s) (op,[])=P at *;obtain⟨y,ic⟩:∃y,Hid (y=(asks.take (j+1)).foldl (pw s) (op,[])):=⟨_,ae rfl⟩;replace D:Hid (y=pw s P x):=ae (ic.aa.trans D.aa);have Jd:P.1.length<=1000000:=af;have Mx:P.2.length<=500000:=LG;obtain⟨t,u⟩:=P;simp only at B Jd Mx;obtain⟨vf,X,rfl,hf,he⟩:=hrl w (K.rf w);have pk:=C.tr kr;have HE:Hid (∀W,K w W->dx x (.agg (aE x vf X)) W):=ae λW k=>⟨_,_,rfl,eu _ _ _ _ hf k,bj he k⟩
   have:∀i,i<8->wr.cell? ⟨b1,off+j*8+i,none⟩=(aE x vf X)[i]?:=λi hi=>(d wr pk i hi).trans Array.getElem?_toList
   have:wr.cell? ⟨b1,off+j*8,none⟩=some (.int .i64 x.kind):=d0 wr pk;have Z:=ah.new wr 126 (aE x vf X);have k3:=Z.aS;obtain⟨Af,cf,rfl⟩:=b5 hf;obtain⟨Ae,ce,rfl⟩:=av he;obtain⟨A1,c1,rfl⟩:=B.a.slice;obtain⟨A3,c3,rfl⟩:=B.b.slice;go_upto_region 6 with fail;have NR:=B.st k3;have cO:=kr.tr k3;generalize wr.alloc _=w3 at *;have H:=Z.cell;go_wp2_with fail
   apply cF (CH.aa w3 (C.tr cO) (au x)) cO;intro w4 A gW;have BK:=NR.st A;have cH:=Z.ay A;have H:=cH.cell;cases hb0:bU s.list (au x);rotate_left
   ·have HP:Hid (y=(t,u)):=ae (by rw[D.aa];unfold pw;rw[if_pos (by simp[hb0])]);exact ahT
   go_wp2_with fail
   apply cF (CA.aa w4 (C.tr gW) (au x)) gW;intro w5 A mh;have Ds:=BK.st A;have eB:=cH.ay A;have H:=eB.cell;cases aR:dG s.ab (au x);rotate_left
   ·have HP:Hid (y=(t,u)):=ae (by rw[D.aa];unfold pw;rw[if_pos (by simp[hb0,aR])]);exact ahU
   go_wp2_with fail
   apply cF (acv t (au x) _ w5 Ds.a.aq Jd) mh;intro w6 A ot;have uD:=Ds.st A;have jw:=eB.ay A;have H:=jw.cell;cases hb2:bU t (au x);rotate_left
   ·have HP:Hid (y=(t,u)):=ae (by rw[D.aa];unfold pw;rw[if_pos (by simp[hb0,aR,hb2])]);exact ahV
   go_wp2_with fail
   apply cF (acv u (au x) _ w6 uD.b.aq af) ot;intro w7 A oY;have zM:=uD.st A;have pP:=jw.ay A;have H:=pP.cell;cases bP:bU u (au x);rotate_left
   ·have HP:Hid (y=(t,u)):=ae (by rw[D.aa];unfold pw;rw[if_pos (by simp[hb0,aR,hb2,bP])]);exact ahW
   have Q:Hid (y=if x.kind≠1 then (t,u++[x])else if t.length<4 then (t++[x],u)else (t,u)):=ae (by rw[D.aa];unfold pw;rw[if_neg (by simp[hb0,aR,hb2,bP])]);by_cases hk:x.kind≠1
   ·have hk2:(x.kind != 1)=true:=sN;have HP:Hid (y=(t,u++[x])):=ae (by rw[Q.aa,if_pos hk]);go_wp2_with fail
    apply bN (OQ x _ w7 (HE.aa _ (C.tr oY)) pW);rintro v8 O⟨E,k8⟩;obtain⟨G,F,rfl,T⟩:=Ca E;have tC:=zM.a.blk;have eU:=zM.b.blk;have My:=oY.size;have kQ:=zM.lo;have pX:=oY.tr k8;have hr:=ez.new (S:=aW) (e:=126) (v:=.agg (aE x G F)) T 0 (eE _);have kA:=K.new O (.cells (aE x G F) 126);have rP:=zM.st (k8.tr kA);have iR:=pX.tr kA;have oA:=bo k8.size kA.size;go_wp2_with (at_builtin;refine jz rfl _ _ 43 rfl _ 8 96 oZ rfl rfl rP.b _ rfl x ?p1 ?p2 ?p3 ?_)
    case p1 =>
     exact hr.less λk hk=>by
      rcases hk with (hk|hk)|hk
      ·omega
      ·have:=tC k hk;omega
      ·have:=eU k hk;omega
    case p2=>omega
    case p3=>exact bo My oA
    exact WT
   have hk2:(x.kind != 1)=false:=sN;by_cases lE:t.length<4
   ·have Bq:(t.length:Int)<4:=af;have HP:Hid (y=(t++[x],u)):=ae (by rw[Q.aa,if_neg (by simpa using hk),if_pos lE]);go_wp2_with fail
    apply bN (OQ x _ w7 (HE.aa _ (C.tr oY)) pW);rintro v8 O⟨E,k8⟩;obtain⟨G,F,rfl,T⟩:=Ca E;have tC:=zM.a.blk;have eU:=zM.b.blk;have My:=oY.size;have kQ:=zM.lo;have pX:=oY.tr k8;have hr:=ez.new (S:=aW) (e:=126) (v:=.agg (aE x G F)) T 0 (eE _);have kA:=K.new O (.cells (aE x G F) 126);have rP:=zM.st (k8.tr kA);exact ahX
   have HP:Hid (y=(t,u)):=ae (by rw[Q.aa,if_neg (by simpa using hk),if_neg lE]);have Bq:¬(t.length:Int)<4:=af;exact ahW
  ·have aO:¬(j:Int)<asks.length:=af;obtain rfl:j=asks.length:=af;rw[nc]at B;have HT:=ae B;have kF:=C.tr kr;obtain⟨A1,c1,N⟩:=B.a.slice;obtain⟨A3,c3,V⟩:=B.b.slice;subst N V;go_wp2;go_ret2;exact⟨_,_,rfl,by rw[ZY.aa,<- M.aa];exact HT.aa.low (by rw[M.aa];exact C.size) (aD _),kF⟩
def IZ(s:dy)(a:aT):Bool:=bU s.list a||bU s.prom a||dG s.ab a
theorem aqu s a vl vp t g w(J:nB s (.agg (cJ s vl vp t)) w)(hg:ah w g 46 (cJ s vl vp t))(H:s.list.length<=1000000/\s.prom.length<=1000000/\s.ab.length<=1000000) :
 Calls prog 306 #[cA a,.pointer (some ⟨g,0,none⟩)] w λe w'=>e=.returned (.bool (IZ s a))/\K w w':=by
 have G:Hid (IZ s a=(bU s.list a||bU s.prom a||dG s.ab a)):=ae rfl
 have A:=ae λW (k:K w W)=>LS J k
 have U:=ae λW (k:K w W)=>DP s a (.agg (cJ s vl vp t)) W (A.aa W k) H.1
 have V:=ae λW (k:K w W)=>Ku s a (.agg (cJ s vl vp t)) W (A.aa W k) H.2.1
 have M:=ae λW (k:K w W)=>Ia s a (.agg (cJ s vl vp t)) W (A.aa W k) H.2.2
 obtain⟨JA,JB,ZW,e,N,S,T⟩:=J
 simp at e
 obtain⟨rfl,rfl,rfl⟩:=e
 obtain⟨Z,cl,rfl⟩:=av N
 obtain⟨Ap,cp,rfl⟩:=av S
 obtain⟨Ab,X,rfl⟩:=av T
 have hb:=ah.new w 26 (dh a)
 have j:=hb.aS
 have Q:=hg.ay j
 generalize IZ s a=R at *
 go_in
 go_upto_region 1 with fail
 generalize w.alloc _=C at *
 have F:=hb.cells
 have B:=Q.cells
 have L:=F C (K.rf _)
 have I:=B C (K.rf _)
 go_wp2_with fail
 apply aI (U.aa C j)
 intro D u
 cases hb0:bU s.list a
 rotate_left
 ·have HF:Hid (R=true):=ae (by rw[G.aa,hb0];simp);have kF:=j.tr u;go_wp2;exact Cf
 have L:=F D u
 have I:=B D u
 go_wp2_with fail
 apply cF (V.aa D (j.tr u)) u
 intro E k3 y
 cases aR:bU s.prom a
 rotate_left
 ·have HF:Hid (R=true):=ae (by rw[G.aa,aR];simp);have kF:=j.tr y;go_wp2;exact Cf
 have L:=F E y
 have I:=B E y
 go_wp2_with fail
 apply aI (M.aa E (j.tr y))
 intro Y O
 have HF:Hid (R=dG s.ab a):=ae (by rw[G.aa,hb0,aR];rfl)
 have kF:=j.tr (y.tr O)
 go_wp2
 go_ret
 exact⟨D2,kF⟩
theorem acw s:∀(l:List aL) (p:List aL×List aT),(l.foldl (jB s) p).1.length<=p.1.length+l.length/\(l.foldl (jB s) p).2.length<=p.2.length+l.length:=by
 intro l
 induction l with
 | nil=>intro p;simp
 | cons x l j =>
  grind [jB]
theorem aoL s l vl vp M va w(Z:nB s (.agg (cJ s vl vp M)) w)(ha:aq aW l va w)
 (NM:∀x∈l,ew x) (jd:s.list.length<=1000000/\s.prom.length<=1000000/\s.ab.length<=1000000) (NQ:l.length<=500000) :
 Calls prog 272 #[.agg (cJ s vl vp M),va] w λe w'=>∃v1 Q,e=.returned (.tuple #[v1,Q])/\ly w.heap.size w.heap.size 126 aW (nJ s l).1 v1 26 bZ (nJ s l).2 Q w'/\K w w':=by
 have yi:=ae Z
 have ZY:Hid (nJ s l=l.foldl (jB s) ([],[])):=ae rfl
 have y7:=ae λj=>acw s (l.take j) ([],[])
 have HS:=ae NM
 obtain⟨JA,JB,ZW,e,h1,h2,h3⟩:=Z
 simp at e
 obtain⟨rfl,rfl,rfl⟩:=e
 obtain⟨Al,cl,rfl⟩:=av h1
 obtain⟨Ap,cp,rfl⟩:=av h2
 obtain⟨Ab,cb,rfl⟩:=av h3
 obtain⟨Aa,ca,rfl,hl,-⟩:=ha
 generalize nJ s l=R at *
 generalize az9:cJ s (.slice Al s.list.length cl) (.slice Ap s.prom.length cp) (.slice Ab s.ab.length cb)=sa at *
 have hb:=ah.new w 46 sa
 have E:=hb.aS
 subst az9
 go_in
 go_wp2
 go_step3
 generalize w.alloc _=D at *
 generalize T:w.heap.size=lo at hb⊢
 have lL:=ae T
 have L:lo<=D.heap.size:=by rw[<- T];exact E.size
 have CK:=ae λW (k:K D W) a=>aqu s a _ _ _ lo W (LS yi.aa (E.tr k)) (hb.ay k) jd
 have:=hb.cells
 have kk:=K.rf D
 have B:ly lo D.heap.size 126 aW ([]:List aL) (.slice none 0 0) 26 bZ ([]:List aT) (.slice none 0 0) D:=ly.Yj (aC.nil _ _ _ _ _) L
 go_wp2_with fail
 go_step3
 go_wp2_with fail
 go_loopw [6,7,10,14] (fun o1 o2 _ i W=>∃j:Nat,j<=l.length/\i=.int .i64 j/\ly lo D.heap.size 126 aW ((l.take j).foldl (jB s) ([],[])).1 o1 26 bZ ((l.take j).foldl (jB s) ([],[])).2 o2 W/\K D W) (fun _ _ _ i _=>l.length-(intOf i).toNat)
 case atStart=>exact⟨0,af,rfl,fk,kk⟩
 case round =>
  obtain⟨j,hj,rfl,B,kr⟩:=hrel;by_cases H:j<l.length
  ·have aO:(j:Int)<l.length:=af;obtain⟨b1,off,cs,rfl,iD,hrl,d0,d⟩:=ed hl j H ax;have HF:=ae (fold_succ (jB s) l ([],[]) j H);have pW:=HS.aa _ (bT H);have hpl:=y7.aa j;generalize l[j]=x at *;generalize (l.take j).foldl (jB s) ([],[])=P at *;obtain⟨A,ic⟩:∃A,Hid (A=(l.take (j+1)).foldl (jB s) ([],[])):=⟨_,ae rfl⟩;replace HF:Hid (A=jB s P x):=ae (ic.aa.trans HF.aa);have Jd:P.1.length<=500000:=LG;have Mx:P.2.length<=500000:=LG;obtain⟨t,y⟩:=P;simp only at B Jd Mx;obtain⟨vf,I,rfl,hf,he⟩:=hrl w (K.rf w);have pk:=E.tr kr;have HE:Hid (∀W,K w W->dx x (.agg (aE x vf I)) W):=ae λW k=>⟨_,_,rfl,eu _ _ _ _ hf k,bj he k⟩
   have:∀i,i<8->wr.cell? ⟨b1,off+j*8+i,none⟩=(aE x vf I)[i]?:=λi hi=>(d wr pk i hi).trans Array.getElem?_toList
   have:wr.cell? ⟨b1,off+j*8,none⟩=some (.int .i64 x.kind):=d0 wr pk;have J:=ah.new wr 126 (aE x vf I);have k3:=J.aS;obtain⟨Af,cf,rfl⟩:=b5 hf;obtain⟨Ae,ce,rfl⟩:=av he;obtain⟨A1,c1,rfl⟩:=B.a.slice;obtain⟨A3,c3,rfl⟩:=B.b.slice;go_upto_region 7 with fail;have NR:=B.st k3;have cO:=kr.tr k3;generalize wr.alloc _=w3 at *;have F:=J.cell;go_wp2_with fail
   apply cF (CK.aa w3 cO (au x)) cO;intro w4 C gW;have BK:=NR.st C;have X:=J.ay C;have F:=X.cell;cases hb0:IZ s (au x);rotate_left
   ·have HP:Hid (A=(t,y)):=ae axj;exact ahT
   go_wp2_with fail
   apply cF (ab1 t (au x) _ w4 BK.a.aq af) gW;intro w5 C mh;have Ds:=BK.st C;have Y:=X.ay C;have F:=Y.cell;cases hb2:bU t (au x);rotate_left
   ·have HP:Hid (A=(t,y)):=ae (by rw[HF.aa];unfold jB;rw[if_pos (by simp[hb2])]);exact ahU
   go_wp2_with fail
   apply cF (Fo y (au x) _ w5 Ds.b.aq af) mh;intro G C ot;have uD:=Ds.st C;have jw:=Y.ay C;have F:=jw.cell;cases bP:dG y (au x);rotate_left
   ·have HP:Hid (A=(t,y)):=ae (by rw[HF.aa];unfold jB;rw[if_pos (by simp[bP])]);exact ahV
   have O:Hid (A=if s.prom.length+t.length<6 then (t++[x],y)else (t,y++[au x])):=ae axk;have tC:=uD.a.blk;have eU:=uD.b.blk;have My:=ot.size;by_cases h6:s.prom.length+t.length<6
   ·have ZZ:(s.prom.length:Int)+t.length<6:=af;have HP:Hid (A=(t++[x],y)):=ae (by rw[O.aa,if_pos h6]);go_wp2_with fail
    apply bN (apg x _ G (HE.aa _ (E.tr ot)) pW);rintro v8 w8⟨ho,k8⟩;obtain⟨V,U,rfl,mm⟩:=Ca ho;have pX:=ot.tr k8;have hr:=ez.new (S:=aW) (e:=126) (v:=.agg (aE x V U)) mm 0 (eE _);have kA:=K.new w8 (.cells (aE x V U) 126);have rP:=uD.st (k8.tr kA);exact ahX
   ·have ZZ:¬(s.prom.length:Int)+t.length<6:=af;have HP:Hid (A=(t,y++[au x])):=ae (by rw[O.aa,if_neg h6]);have hr:=ez.new (S:=bZ) (e:=26) (x:=au x) (v:=.agg (dh (au x))) (w:=G) (N:=λk=>(k<lo∨(Value.slice A1 t.length c1).ownBlock=some k)∨(Value.slice A3 y.length c3).ownBlock=some k) (λW u=>rfl) 0 (eE _);have kA:=K.new G (.cells (dh (au x)) 26);have rP:=uD.st kA;have iR:=ot.tr kA;have oA:=kA.size;go_wp2_with (at_builtin;refine jz rfl _ _ 44 rfl _ 3 24 wu rfl rfl rP.b _ rfl (au x) ?p1 ?p2 ?p3 ?_)
    case p1=>exact hr
    case p2=>omega
    case p3=>exact bo My oA
    exact WT
  ·have aO:¬(j:Int)<l.length:=af;have HR:Hid (R=(l.take j).foldl (jB s) ([],[])):=ae (by rw[ZY.aa,gI (by omega)]);have kF:=E.tr kr;generalize (l.take j).foldl (jB s) ([],[])=P at *;have HT:=ae (B.low (base':=lo) L (aD _));obtain⟨A1,c1,rfl⟩:=B.a.slice;obtain⟨A3,c3,rfl⟩:=B.b.slice;go_wp2;go_ret2;exact⟨_,_,rfl,by rw[HR.aa,lL.aa];exact HT.aa,kF⟩
theorem Il p n:(Gb p n).length<=p.length:=by
 grind [Gb,rY]
theorem axl{m v W}(h:lI m v W):yh.rel m v.cells.toList W:=by obtain⟨t,A,j,u,B,y,rfl,h⟩:=h;exact⟨t,A,j,u,B,y,rfl,h⟩
theorem Ux{M p B w}(h:bA M p B w)(L:bC B) :
 Calls prog 92 #[.pointer (some ⟨p.g,0,none⟩)] w λe w'=>∃v',e=.returned v'/\Fx M (λW=>aq yh (dA B) v' W) w'/\K w w':=by
 have H:=ae h
 have C1:=ae (Ut h L)
 have:(pD B).length<=16:=bo (Il _ _) (rU L.tr).2
 have HM:=ae h.low
 have q:=h.q
 have Q1:=ae λW (k:K w W) x=>(DN (Es (P:=prog) (kt:=3) underlying3) underlying159 (ajM W) (h.rep.st k) x).2
 have HL:Hid (dA B=(pD B).map (iK B)):=ae rfl
 generalize pD B=t at *
 generalize dA B=R at *
 obtain⟨g,gl,gd,gr,gt,vd,vr,vp,vh,vl,vq,va,vt,vf,vw,kr⟩:=p
 simp only at q Q1
 clear h L
 go_in
 go_wp2_with fail
 apply bN C1.aa
 rintro v1 C⟨fI,A⟩
 obtain⟨A1,c1,e1,kQ,-⟩:=fI.aq
 subst e1
 have JL:=ae kQ
 clear fI kQ C1
 have u:=aC.nil (λk=>M k) C.heap.size 156 yh C
 have T:=K.rf C
 go_wp2_with fail
 go_loopw [3,5,9] (fun o _ i W=>∃j:Nat,j<=t.length/\i=.int .i64 j/\aC (fun k=>M k) C.heap.size 156 yh ((t.take j).map (iK B)) o W/\K C W) (fun _ _ i _=>t.length-(intOf i).toNat)
 case atStart=>exact⟨0,af,rfl,fk,T⟩
 case round =>
  clear u T;obtain⟨j,hj,rfl,u,y⟩:=hrel;by_cases hlt:j<t.length
  ·have aO:(j:Int)<t.length:=af;obtain⟨b,off,rfl,U⟩:=ints_at JL.aa af;have cj:=U wr y j hlt;have HT:Hid ((t.take (j+1)).map (iK B)=(t.take j).map (iK B)++[iK B t[j]]):=ae Wl;generalize t[j]=x at *;have D:Fx (λk=>M k∨w.heap.size<=k) (λW=>lI (iK B x) ((cT kr x).getD (.agg Dq)) W) wr:=(H.aa.bF.to (X:=λ_=>False) (N:=λk=>M k∨w.heap.size<=k) (ag.aU (A.tr y) _) (λ_ h=>h.elim) (λk hk hx=>hx.resolve_right af)).mono λW d=>d.bI.look x
   obtain⟨G,O,J,Q,F,E,em,hm⟩:=D.now;have I:=Q1.aa wr (A.tr y) x;rw[em]at I D;have qg:=q wr (A.tr y);simp only[encI]at I;have bS:=u.blk;have V:=D.mono λW h=>axl h
   have Y:=ez.new (S:=yh) (e:=156) (v:=.agg (kj (iK B x) G O J Q F E)) V 0 (eE _);have Z:=u.st ((K.rf wr).al (.cells (kj (iK B x) G O J Q F E) 156));have cO:=y.tr ((K.rf wr).al (.cells (kj (iK B x) G O J Q F E) 156));clear u D V hm em U;go_wp2_with (at_builtin;refine jz rfl _ _ 164 rfl _ 8 160 TMs rfl rfl Z _ rfl (iK B x) ?p1 ?p2 ?p3 ?_)
   case p1 =>
    refine Y.less λk hk=>?_
    rcases hk with hk|hk
    ·exact .inl hk
    ·have:=(bS k hk).1;have:=A.size;exact .inr af
   case p2=>simp;omega
   case p3=>exact cO.size
   intro v9 w9 bE cd _ bq;rw[<- List.map_take,<- HT.aa]at bE;have iR:=cO.trans bq;clear Y Z I qg cj;exact WU
  ·have aO:¬(j:Int)<t.length:=af;obtain rfl:j=t.length:=af;rw[nc]at u;have HF:Hid (Fx M (λW=>aq yh R _ W) wr):=ae (by rw[HL.aa];exact u.fx λk hk=>bw (HM.aa k hk) A.size);have kF:=A.tr y;clear u;go_wp2;go_ret;exact⟨_,rfl,HF.aa,kF⟩
def findF(t:eo)(is:Bool)(_:Nat)(xs:Array Value)(c:Value)(_:World):Prop:=∃vf j,xs=gP t vf j/\c=.bool is/\(∃A k,vf=.slice A t.e.f.length k)/\∃A k,j=.slice A t.e.es.length k
abbrev akI:Array Value:=gP vM (.slice none 0 0) (.slice none 0 0)
theorem aoM{M p B w}(h:bA M p B w)(hG:bC B) a :
 Calls prog 53 #[.pointer (some ⟨p.g,0,none⟩),cA a] w λe w'=>e=.returned (.int .i64 (FU B a))/\K w w':=by
 have HR:Hid (FU B a=if bU B.st.list a then 3 else if tJ B a then 4 else if (sQ B.aA a).2 then (if (sQ B.aA a).1.asked then 2 else 1)else 0):=ae rfl
 have H:=ae h
 have HG:=ae hG
 have hb:=ah.new w 26 #[.int .i64 a.1,.int .u64 a.2.1,.int .u64 a.2.2]
 have Q:=hb.aS
 have C:=ae λW (k:K w W)=>aqd B.aA a p.vt W (h.bF.at k).aA hG.tx.small ahY
 have D:=ae λW (k:K w W)=>DP B.st a (.agg (cJ B.st p.vl p.vq p.va)) W ⟨_,_,_,rfl,(h.bF.at k).list,(h.bF.at k).prom,(h.bF.at k).ab⟩ Cb
 have hs1:=av h.bF.now.list
 have fH:=av h.bF.now.prom
 have fR:=av h.bF.now.ab
 have hs4:=av h.bF.now.aA
 have q:=h.q
 obtain⟨g,gl,gd,gr,gt,vd,vr,vp,vh,vl,vq,va,vt,vf,vw,kr⟩:=p
 simp only at q C D hs1 fH fR hs4
 obtain⟨Al,cl,rfl⟩:=hs1
 obtain⟨Ap,cp,rfl⟩:=fH
 obtain⟨Aa,ca,rfl⟩:=fR
 obtain⟨At,ct,rfl⟩:=hs4
 obtain⟨N,mK⟩:∃N,N=sQ B.aA a:=⟨_,rfl⟩
 obtain⟨Z,hhl⟩:∃Z,Z=bU B.st.list a:=⟨_,rfl⟩
 obtain⟨S,T⟩:∃S,S=tJ B a:=⟨_,rfl⟩
 simp only[<- mK,<- hhl,<- T]at C D HR
 have HA:=ae T
 obtain⟨tx,is⟩:=N
 clear h hG mK hhl T
 generalize FU B a=R at *
 go_in
 go_upto_region 3 with fail
 generalize w.alloc _=w1 at *
 generalize w.heap.size=ga at hb⊢
 have J:=hb.cells
 have F:=λW (k:K w1 W)=>q W (Q.tr k)
 have C3:=ae λW (k:K w1 W)=>C.aa W (Q.tr k)
 clear hb C q
 refine abJ 128 akI (λi=>[Value.pointer (some ⟨g,0,none⟩),.pointer (some ⟨g,0,none⟩),.pointer (some ⟨g,8,none⟩),.slice At B.aA.length ct,cA a].getD i undef) (findF tx is)
  [([],[]),([0],[(10,0)]),([1],[(11,1)]),([2],[(12,2)]),([],[]),([3,4],[(13,3),(14,4)]),([5],[(15,5)]),([6],[(9,6)]),([6],[(9,6)]),([],[]),([7,9],[(5,9),(16,7)]),([8],[(17,8)])] 106 #[.slice At B.aA.length ct,cA a] 37 rfl cC cC cC rfl rfl ?gd ?pre ?call ?cc ?h6 ?h7 ?h8 ?h9 ?om ?vX ?hk ?hlow ?_
 case gd=>simp
 case pre => intro i hi V W kW hp;have:i=0∨i=1∨i=2∨i=3∨i=4:=af;rcases this with rfl|rfl|rfl|rfl|rfl <;> simp at hp <;> simp[lC,aF,List.lookup,hp,execOp,aG,F,J,kW,go_sem]
 case call=>intro V W kW h3 h4;simp at h3 h4;simp[lC,aF,List.lookup,h3,h4,execOp,aG,go_sem]
 case cc => intro W kW;refine (C3.aa W kW).mono ?_;rintro e w3⟨u,rfl,⟨vf,ve,rfl,hf,he⟩,k3⟩;obtain⟨Y,L,rfl⟩:=b5 hf;obtain⟨I,E,rfl⟩:=av he;exact⟨_,_,rfl,⟨_,_,rfl,rfl,⟨_,_,rfl⟩,⟨_,_,rfl⟩⟩,k3⟩
 case h6=>intro V W v j;simp[lC,aF,List.lookup,j,execOp,aG,go_sem]
 case h7=>intro V W xs c j;simp[lC,aF,List.lookup,j,execOp,aG,go_sem]
 case h8=>intro V W xs c j;simp[lC,aF,List.lookup,j,execOp,aG,go_sem]
 case h9=>intro V W;simp[lC,execOp,aG,go_sem];rfl
 case om => rintro V W b lo xs c W0 G X hb⟨vf,ve,rfl,-,⟨Y,L,rfl⟩,I,E,rfl⟩;show ∃W',(execOp (aF [(5,9),(16,7)] _ V) (aG (.store 128 (.tmp 5) (.tmp 16)) _)).run prog W=_/\_/\_;exact acX (.tmp 5) (.tmp 16) 128 _ 128 b 0 akI (gP tx (.slice Y tx.e.f.length L) (.slice I tx.e.es.length E)) fk fk hb cC aj (by simp[Value.oneCell'])
 case vX=>intro V W c j;simp[lC,aF,List.lookup,j,execOp,aG,go_sem]
 case hk=>exact λlo xs c W W' h k=>h
 case hlow=>exact λlo xs c W W' b h hb u=>h
 intro V W b xs c lo kW hcs e5 e6 X e8 G rN bS hbk hlo Dn
 obtain⟨vf,ve,rfl,rfl,⟨Y,L,rfl⟩,I,E,rfl⟩:=Dn
 simp only[fT,Act.put,rW,rh,qZ,e5,e6,X,e8,G,rN]
 have t:=Q.tr kW
 have q2:=λW' (k:K W W')=>F W' (kW.tr k)
 have ya:=λW' (k:K W W')=>J W' (kW.tr k)
 have O:=hbk.cells
 have C4:=ae λW' (k:K W W')=>D.aa W' (t.tr k)
 have A:=ae λW' (k:K W W')=>T7 (H.aa.st (t.tr k)) HG.aa a
 simp only[<- HA.aa]at A
 clear hcs e5 e6 X e8 G rN F J D C3 hbk HA H HG
 go_upto_region 4 with fail
 cases Z
 rotate_left
 ·have HF:Hid (R=3):=ae fJ;have qs:=And.intro q2 ya;refine dK 7 ?_;iterate 5 refine ar.i ?_
  refine ar.is (.bool true) (λV W kW hp=>?_) ?_
  ·(try simp only[cz,aN,aQ,bV,bW,aJ]at hp)
   exact ahZ
  refine ar.i ?_;clear qs;intro V W kW hA;simp only[aN,aQ,b6,aJ,Nat.reduceAdd]at hA;refine aH.h ?_;have kF:=t.tr kW;clear hA q2 ya A O HR;go_wp2;exact Cf
 have qs:=And.intro q2 ya
 refine dK 7 ?_
 iterate 5 refine ar.i ?_
 refine ar.is (.bool false) (λV W kW hp=>?_) ?_
 ·(try simp only[cz,aN,aQ,bV,bW,aJ]at hp)
  exact ahZ
 refine ar.i ?_
 clear qs
 intro V W kW hA
 simp only[aN,aQ,b6,aJ,Nat.reduceAdd]at hA
 refine aH.h ?_
 have kF:=t.tr kW
 have C6:=ae (A.aa W kW)
 have qa3:=λi=>ya W kW i
 have U:=ae λW' (k:K W W')=>O W' (kW.tr k)
 clear hA q2 ya A O C4 t
 go_wp2_with fail
 refine C6.aa.mono ?_
 rintro e w9⟨rfl,k9⟩
 have kG:=kF.tr k9
 clear C6
 cases S
 rotate_left
 ·have HF:Hid (R=4):=ae fJ;clear HR;exact Qy
 have y:=U.aa w9 k9
 have HE:Hid (R=if is then (if tx.asked then 2 else 1)else 0):=ae fJ
 clear HR qa3
 cases Dd:is
 ·have HF:Hid (R=0):=ae (by rw[HE.aa,Dd];rfl);exact Qy
 cases YB:tx.asked
 ·have HF:Hid (R=1):=ae ah0;have q8:w9.cell? ⟨b,8,none⟩=some (.bool false):=(y 8).trans (by simp[gP,YB]);clear y U;exact Qy
 ·have HF:Hid (R=2):=ae ah0;have q8:w9.cell? ⟨b,8,none⟩=some (.bool true):=(y 8).trans (by simp[gP,YB]);clear y U;exact Qy
theorem atQ B o x(h:o.length<=16):(jJ B o x).length<=16:=by
 grind [jJ]
theorem Ps B:∀(l o:List aL),o.length<=16->(l.foldl (jJ B) o).length<=16:=by
 intro l
 induction l with
 | nil=>intro o h;exact h
 | cons x l j=>intro o h;exact j _ (atQ B o x h)
theorem Q3 x cs W(h:aW.rel x cs W):cs[0]?≠some (.bool true):=by obtain⟨vf,j,rfl,-⟩:=h;simp
theorem ab2{MB Y p B w}(h:bA MB p B w)(hG:bC B) base t L o l D vl9
 (hb:ah w t 43 #[D]) (ht:ah w L 90 #[.pointer (some ⟨p.g,0,none⟩)]) (E:aC Y base 126 aW o D w) (hl:ji (λk=>Y k∨D.ownBlock=some k) aW l vl9 w)
 (hYb:∀k,Y k->k<base) (Hi:Y t) (hMo:MB t) (hMv:∀k,D.ownBlock=some k->MB k) (hXo:¬bu p t) (hXb:∀k,bu p k->k<base) (SQ:L<base) (J7:L≠t) (hbase:base<=w.heap.size) (hlo:o.length<=16) (wO:l.length<=1000000) :
 Calls prog 156 #[vl9,.pointer (some ⟨t,0,none⟩),.pointer (some ⟨L,0,none⟩)] w λe w'=>e=.returned (.tuple #[])/\Mv Y base 43 126 aW (l.foldl (jJ B) o) D t w w':=by
 have H:=ae h
 have HG:=ae hG
 have HL:=ae hl
 have HX:=ae hMv
 have HXb:=ae hXb
 have bS:=E.blk
 have:=hYb t Hi
 obtain⟨A9,c9,rfl⟩:=hl.slice
 obtain⟨R,HR⟩:∃R,Hid (R=l.foldl (jJ B) o):=⟨_,ae rfl⟩
 rw[<- HR.aa]
 have HJ:=ae λ(j:Nat) (hj:j<l.length)=>fold_succ (jJ B) l o j hj
 have HN:=ae λ(j:Nat)=>Ps B (l.take j) o hlo
 have HT:=ae ht
 have uu:ag (λk=>k=t∨D.ownBlock=some k) w w:=ag.rf _ _
 clear h hG hl hMv ht hXb
 go_in
 go_wp2_with fail
 go_loopw [5,6,9] (fun _ _ i W=>∃(j:Nat) (v':Value),j<=l.length/\i=.int .i64 j/\ah W t 43 #[v']/\aC Y base 126 aW ((l.take j).foldl (jJ B) o) v' W/\(∀k,v'.ownBlock=some k->D.ownBlock=some k∨w.heap.size<=k)/\ag (fun k=>k=t∨D.ownBlock=some k) w W) (fun _ _ i _=>l.length-(intOf i).toNat)
 case atStart=>exact⟨0,D,af,rfl,hb,fk,λk hk=>.inl hk,uu⟩
 case round =>
  clear hb E uu;obtain⟨j,v',hj,rfl,hb,E,hat,u⟩:=hrel;have mR:=u.size;by_cases hlt:j<l.length
  ·have aO:(j:Int)<l.length:=af;obtain⟨b1,o1,c1,cs1,e9,dX,hcl,hF,hcell⟩:=HL.aa.at j hlt ax;injection e9 with e9 _ gu;subst e9 gu;have T:=ae (HJ.aa j hlt);have:=HN.aa j;generalize l[j]=x at *;generalize (l.take j).foldl (jJ B) o=A at *;obtain⟨I,ic⟩:∃I,Hid (I=(l.take (j+1)).foldl (jJ B) o):=⟨_,ae rfl⟩;replace T:Hid (I=jJ B A x):=ae (ic.aa.trans T.aa);have Mz:cs1.length=8:=hcl;have HFr:Hid (Fx (λk=>Y k∨v'.ownBlock=some k) (λW=>aW.rel x cs1 W) wr):=ae (hF.to u (λk hk=>hk.elim (λe=>e ▸ .inl Hi) .inr) λk hk C=>by
    rcases C with C|C
    ·exact .inl C
    ·rcases hat k C with h|h
     ·exact .inr h
     ·omega)
   have rQ:=hcell wr (u.more λk hk=>hk.elim (λe=>e ▸ .inl Hi) .inr);obtain⟨vf,ve,rfl,hf,he⟩:=hF.now;have q9:∀i,i<8->wr.cell? ⟨b1,o1+j*8+i,none⟩=(aE x vf ve)[i]?:=λi hi=>(rQ i hi).trans Array.getElem?_toList
   have q0:wr.cell? ⟨b1,o1+j*8,none⟩=some (.int .i64 x.kind):=q9 0 ax;have C:=ah.new wr 126 (aE x vf ve);have Q:=C.aS;obtain⟨Af,cf,rfl⟩:=b5 hf;obtain⟨Ae,ce,rfl⟩:=av he;obtain⟨Av,cv,rfl⟩:=E.slice;have hBr:=H.aa.far u (λk hk=>hk.elim (λe=>e▸hMo) (HX.aa k)) (λk hk C=>by
    rcases hk with rfl|hk
    ·exact hXo C
    ·have:=HXb.aa k C;have:=(bS k hk).1;omega) (λk _ hk=>hk) H.aa.sub (λk hk=>bw (H.aa.low k hk) mR)
   have htr:=HT.aa.aX u (by
    rintro (rfl|hk)
    ·exact J7 rfl
    ·have:=(bS _ hk).1;omega)
   have HB:=ae hBr;clear hf he hF hcell rQ hcl Mz dX hBr;go_upto_region 3 with fail;generalize wr.alloc _=w3 at *;obtain⟨J,lL⟩:∃J,Hid (J=wr.heap.size):=⟨_,ae rfl⟩;rw[<- lL.aa]at C⊢;clear q9 q0;have bP:=hb.ay Q;have E1:=htr.ay Q;have bQ:=E.st Q;have C1:=ae (O3 A _ (gZ (au x)) 157 #[.pointer (some ⟨J,0,none⟩)] w3 bQ.aq af (λ_ _=>cC) (λW k y _ u hu=>arU y x u _ _ J W hu (C.ay k)));have Hj:Hid (A.any (gZ (au x))=bU A (au x)):=ae rfl;rw[Hj.aa]at C1;have q1:=bP.cell;go_wp2_with fail
   apply cF C1.aa Q;intro w4 O xY;have hb4:=bP.ay O;have ht4:=E1.ay O;have cH:=C.ay O;have cY:=bQ.st O;have F:=ae (HB.aa.st xY);have HF4:=ae (HFr.aa.k xY);clear C1 Hj q1 bP E1 C bQ HB HFr hb E htr;have Z:=ae λW (k:K w4 W)=>DP B.st (au x) (.agg (cJ B.st p.vl p.vq p.va)) W ⟨_,_,_,rfl,(F.aa.bF.at k).list,(F.aa.bF.at k).prom,(F.aa.bF.at k).ab⟩ (by have:=HG.aa.dk.len;omega)
   have C3:=ae λW (k:K w4 W)=>T7 (F.aa.st k) HG.aa (au x)
   have HP:Hid (I=if bU A (au x)||bU B.st.list (au x)||tJ B (au x)||decide (16<=A.length)then A else A++[x]):=ae T.aa;generalize bU A (au x)=c1 at *;generalize bU B.st.list (au x)=c2 at *;generalize tJ B (au x)=c3 at *;have hs1:=av F.aa.bF.now.list;have fH:=av F.aa.bF.now.prom;have fR:=av F.aa.bF.now.ab;have q:=F.aa.q;have qo:=hb4.cells;have U:=ht4.cells;have qx:=cH.cells;obtain⟨g,gl,gd,gr,gt,vd,vr,vp,vh,vl,vq,va,vt,jQ,vw,kr⟩:=p;simp only at q Z C3 hs1 fH fR U;obtain⟨Al,cl,rfl⟩:=hs1;obtain⟨Aq,cq,rfl⟩:=fH;obtain⟨Aa,ca,rfl⟩:=fR;clear T;have hc:(I=A/\(c1=true∨c1=false/\c2=true∨(c1=false/\c2=false)/\c3=true∨((c1=false/\c2=false)/\c3=false)/\(16:Int)<=(A.length:Int)))∨I=A++[x]/\((c1=false/\c2=false)/\c3=false)/\¬(16:Int)<=(A.length:Int):=by rw[HP.aa];have:=@Int.ofNat_le 16 A.length;by_cases h:16<=A.length <;> cases c1 <;> cases c2 <;> cases c3 <;> simp[h] <;> omega
   have qs:=And.intro q (And.intro qo (And.intro U (And.intro qx (show au x=(x.br,x.life,x.bY)from rfl))));rcases hc with ⟨HQ,rfl|⟨rfl,rfl⟩|⟨⟨rfl,rfl⟩,rfl⟩|⟨⟨⟨rfl,rfl⟩,rfl⟩,aAa⟩⟩|⟨HQ,⟨⟨rfl,rfl⟩,rfl⟩,aAa⟩;all_goals
    replace HQ:=ae HQ
    go_upto_region 4 with fail
    refine dK 21 ?_
    iterate 21 first|refine ar.i ?_|refine ar.v Z.aa ?_|refine ar.v C3.aa ?_
    clear qs
    intro V W kW hA
    simp only[aN,aQ,b6,aJ,Nat.reduceAdd]at hA
    refine aH.h ?_
    have mj:=hb4.ay kW
    have x9:=cY.st kW
    have uW:=u.tr (ag.aU (xY.tr kW) _)
    clear hA q qo U qx hb4 cY Z C3
   ·exact Qz
   ·exact Qz
   ·exact Qz
   ·exact Qz
   have Dj:=cH.ay kW;have HFW:=HF4.aa.k kW;clear cH;have q1:=mj.cell;have q2:=Dj.cell;have aAb:=x9.blk;have N:=K.new W (.cells (aE x (.slice Af x.f.length cf) (.slice Ae x.es.length ce)) 126);have E9:=x9.st N;have tC:=mj.ay N;have hr:=ez.new (S:=aW) (e:=126) (v:=.agg (aE x (.slice Af x.f.length cf) (.slice Ae x.es.length ce))) HFW 0 (eE _);go_wp2_with (at_builtin;refine jz rfl _ _ 43 rfl _ 8 96 oZ rfl rfl E9 _ rfl x ?p1 ?p2 ?p3 ?_)
   case p1=>exact hr.less λk hk=>hk
   case p2=>omega
   case p3=>exact bo hbase (bo uW.size N.size)
   intro G w9 bE cd eS bq;rw[<- HQ.aa]at bE;have M:=tC.grown cd (by intro e;have:=(aAb t e.symm).1;omega);have q9:=M.cell;have:=M.frozen;have HU:=ae ((uW.tr (ag.aU N _)).gq (X:=λk=>k=t∨D.ownBlock=some k) (Y:=λk=>k=t∨(Value.slice Av A.length cv).ownBlock=some k) ((ag.eP (X:=λk=>k=t∨(Value.slice Av A.length cv).ownBlock=some k) cd λk e=>.inr e).tr (ag.bK (X:=λk=>k=t∨(Value.slice Av A.length cv).ownBlock=some k) (.inl rfl) 0 G)) λk hk h=>by
    rcases h with h|h
    ·exact .inl h
    ·rcases hat k h with h|h
     ·exact .inr h
     ·omega)
   have ZA:Hid (ah (w9.setCell ⟨t,0,none⟩ G) t 43 #[G]):=ae (M.aP 0 G);have zG:=ae (bE.to (X:=λk=>k=t) (ag.bK (X:=λk=>k=t) rfl 0 G) (λk hk=>Qx) (λk hk e=>WO) λk _ hk=>.inl hk);have qN:Hid (∀k,G.ownBlock=some k->D.ownBlock=some k∨w.heap.size<=k):=ae λk hk=>by
    rcases eS with h|h
    ·exact hat k (h▸hk)
    ·rw[h]at hk;injection hk with hk;have:=uW.size;exact .inr af
   obtain⟨A9',c9',rfl⟩:=bE.slice;clear bE cd eS bq M tC E9 hr q1 q2 mj x9 Dj;go_wp2;go_roundw
   case rel=>exact⟨j+1,_,af,bD,ZA.aa,by rw[<- ic.aa];exact zG.aa,qN.aa,HU.aa⟩
   case measure=>simp[intOf];omega
  ·have aO:¬(j:Int)<l.length:=af;obtain rfl:j=l.length:=af;rw[nc,<- HR.aa]at E;go_wp2;go_end0;exact⟨rfl,v',hb,E,hat,u⟩
theorem adL{B y}:∀ {l o:List aL},y∈l.foldl (jJ B) o->y∈o∨y∈l:=by
 intro l
 induction l with
 | nil=>intro o h;exact .inl h
 | cons x l j =>
  grind [jJ]
theorem atS{B y}:∀ {l:List eW} {o:List aL},y∈l.foldl (λo k=>k.asks.foldl (jJ B) o) o->y∈o∨∃m∈l,y∈m.asks:=by
 intro l
 induction l with
 | nil=>intro o h;exact .inl h
 | cons x l j =>
  intro o h;rcases j h with h|⟨m,hm,h⟩
  ·grind [adL]
  ·grind
theorem adM B:∀(l:List eW) (o:List aL),o.length<=16->(l.foldl (λo k=>k.asks.foldl (jJ B) o) o).length<=16:=by
 intro l
 induction l with
 | nil=>intro o h;exact h
 | cons x l j=>intro o h;exact j _ (Ps B _ _ h)
theorem adN B:(lu B).length<=16:=adM B _ _ (Ps B _ _ aj)
theorem bC.rep{B}(j:bC B) k:iK B k=vP∨dI (iK B k)=true/\nX (iK B k):=by
 unfold iK
 cases h:B.bI.find? λp=>decide (p.1=k)with
 | none=>exact .inl rfl
 | some x=>exact .inr (j.bI x (List.mem_of_find?_eq_some h))
theorem Vo{α f}{l:List α}(h:jZ f l=true):l.length<=16/\∀x∈l,f x=true:=by
 grind [jZ]
theorem bC.last{B}(y:bC B){m}(h:m∈dA B):(∀x∈m.asks,bH x=true/\cE x)/\m.cG.length<=16/\m.asks.length<=16:=by
 obtain⟨k,-,rfl⟩:=List.mem_map.1 h;rcases y.rep k with e|⟨A,D⟩
 ·grind [vP]
 ·have j:=A;unfold dI at j;simp only[dz]at j;obtain⟨⟨⟨⟨⟨⟨-,C⟩,u⟩,-⟩,-⟩,-⟩,-⟩:=j;exact⟨λx t=>⟨(Vo u).2 x t,D.2.2.2.1 x t⟩,(Vo C).1,(Vo u).1⟩
theorem bC.asks{B}(j:bC B){x}(h:x∈lu B):bH x=true/\cE x:=by
 rcases atS h with h|⟨m,hm,h⟩
 ·rcases adL h with h|h
  ·simp at h
  ·obtain⟨t,u,rfl⟩:=List.mem_map.1 (nQ h);have:=j.tx.each t (List.mem_filter.1 u).1;exact⟨this.1,this.2.1⟩
 ·exact (j.last hm).1 x h
theorem adO{B}(j:bC B):(dA B).length<=16:=by unfold dA;rw[List.length_map];exact bo (Il _ _) (rU j.tr).2
theorem ayv x cs W(h:yh.rel x cs W):cs[0]?≠some (.bool true):=by obtain⟨t,A,j,u,B,y,rfl,-⟩:=h;simp
theorem acx{M p B w}(h:bA M p B w)(hG:bC B) :
 Calls prog 93 #[.pointer (some ⟨p.g,0,none⟩)] w λe w'=>∃v',e=.returned v'/\Fx M (λW=>aq aW (lu B) v' W) w'/\K w w':=by
 have H:=ae h
 have HG:=ae hG
 have HM:=ae h.low
 have R:=ae h.sub
 have HAB:Hid (lu B=(dA B).foldl (λo k=>k.asks.foldl (jJ B) o) ((jj B.aA).foldl (jJ B) [])):=ae rfl
 have HJ:=ae λ(j:Nat) (hj:j<(dA B).length)=>fold_succ (λo (k:eW)=>k.asks.foldl (jJ B) o) (dA B) ((jj B.aA).foldl (jJ B) []) j hj
 have HN:=ae λ(j:Nat)=>adM B ((dA B).take j) _ (Ps B (jj B.aA) [] aj)
 have HLM:=ae λm hm=>hG.last (m:=m) hm
 have:=adO hG
 have:(jj B.aA).length<=4:=by unfold jj;simp;omega
 have C1:=ae λW (k:K w W)=>arC B.aA p.vt W (h.bF.at k).aA hG.tx.small ahY
 have hs4:=av h.bF.now.aA
 have q:=h.q
 have hz1:(w.alloc (.cells #[.pointer (some ⟨p.g,0,none⟩)] 90)).heap.size=w.heap.size+1:=aj
 have k1:=K.kK w (.cells #[.pointer (some ⟨p.g,0,none⟩)] 90) (.cells #[.slice none 0 0] 43)
 have SQ:=(ah.new w 90 #[.pointer (some ⟨p.g,0,none⟩)]).alloc (.cells #[.slice none 0 0] 43)
 have T:=ah.new (w.alloc (.cells #[.pointer (some ⟨p.g,0,none⟩)] 90)) 43 #[.slice none 0 0]
 rw[hz1]at T
 clear h hG hz1
 go_in
 go_upto_region 2 with fail
 generalize World.alloc (World.alloc w _) _=w1 at *
 obtain⟨g,hg⟩:∃g,g=w.heap.size:=⟨_,rfl⟩
 rw[<- hg]at SQ T⊢
 have V:=ae hg
 clear hg
 have:=T.lt
 have q1:=q w1 k1
 have qt:=SQ.cell
 obtain⟨At,ct,Z2⟩:=hs4
 simp only[Z2]at C1
 have HAt:=ae Z2
 clear Z2
 have q1t:w1.cell? ⟨p.g,8,none⟩=some (.slice At B.aA.length ct):=by rw[q1 8,<- HAt.aa];rfl
 clear q1 q
 go_wp2_with fail
 apply rr (C1.aa w1 k1) k1
 intro G y Y k2 J
 have:=k2.size
 have YC:=SQ.ay k2
 have aAc:=T.ay k2
 have eO:=V.aa
 have O:=λk hk=>HM.aa k (R.aa k hk)
 have EF:bA (λk=>M k∨k=g+1) p B y:=H.aa.far (X:=λ_=>False) (ag.aU J _) (λ_ h=>h.elim) (λ_ h=>h.elim) (λk hk t=>t.resolve_right af) (λk hk=>.inl (R.aa k hk)) (λk hk=>hk.elim (λh=>WV) (λh=>af))
 have YD:=Y.sw.blk
 have fg:ji (λk=>(M k∨k=g+1)∨(Value.slice none 0 0).ownBlock=some k) aW (jj B.aA) G y:=Y.sw.Hg (λk hk=>.inl (by
  rcases hk with (hk|hk)|hk
  ·have:=HM.aa k hk;omega
  ·omega
  ·simp[Value.ownBlock]at hk)) (λk hk t=>by
   have:=(YD k hk).1;rcases t with (t|t)|t
   ·have:=HM.aa k t;omega
   ·omega
   ·simp[Value.ownBlock]at t)
 have C2:=ae (ab2 EF HG.aa y.heap.size (g+1) g [] (jj B.aA) (.slice none 0 0) G aAc YC (aC.nil _ _ _ _ _) fg (λk hk=>hk.elim (λh=>WV) (λh=>af)) (.inr rfl) (.inr rfl) (λk hk=>ah1) (λt=>by have:=O _ t;omega) (λk hk=>by have:=O k hk;omega) af af (aD _) aj af)
 have wF:=ae EF
 have N:=ae O
 obtain⟨A2,c2,rfl⟩:=fg.slice
 clear EF YD fg Y C1 q1t qt O eO
 go_wp2_with fail
 apply aI C2.aa
 rintro A⟨v3,Je,bQ,Mg,I⟩
 replace Mg:∀k,v3.ownBlock=some k->y.heap.size<=k:=λk hk=>by
  rcases Mg k hk with h|h
  ·simp[Value.ownBlock]at h
  ·exact h
 replace I:ag (λk=>k=g+1) y A:=I.more λk hk=>hk.elim id λh=>FT
 have iQ:=I.size
 have akJ:=HM.aa
 have pN:bA (λk=>M k∨k=g+1∨(y.heap.size<=k/\k<A.heap.size)) p B A:=wF.aa.far I (λk hk=>.inr hk) (λk hk t=>by have:=N.aa k t;have:=V.aa;omega) (λk hk t=>by
  rcases t with h|h|h
  ·exact .inl h
  ·exact .inr h
  ·omega) (λk hk=>.inl (R.aa k hk)) (λk hk=>by
   rcases hk with h|h|h
   ·have:=akJ k h;have:=J.size;omega
   ·omega
   ·omega)
 have akK:=YC.aX I af
 have C3:=ae (Ux pN HG.aa)
 have q3:=akK.cell
 clear C2 pN akJ
 go_wp2_with fail
 apply bN C3.aa
 rintro v4 C⟨J2,S⟩
 have lE:=Fx.fix J2 ax ayv
 have SS:=ae lE
 obtain⟨A4,c4,rfl⟩:=lE.slice
 have akL:=Je.ay S
 have cY:=bQ.st S
 have u4:=I.tr (ag.aU S (λk=>k=g+1))
 have akM:=bQ.blk
 have il:=S.size
 have:=ae (And.intro iQ il)
 clear C3 q3 lE J2 akK Je bQ
 go_wp2_with fail
 have akN:∀k,v3.ownBlock=some k->(y.heap.size<=k/\k<A.heap.size)∨C.heap.size<=k:=λk hk=>.inl (akM k hk)
 have uu:ag (λk=>k=g+1∨(y.heap.size<=k/\k<A.heap.size)) C C:=ag.rf _ _
 clear akM Mg
 go_loopw [6,18] (fun _ i W=>∃(j:Nat) (v':Value),j<=(dA B).length/\i=.int .i64 j/\ah W (g+1) 43 #[v']/\aC (fun k=>M k∨k=g+1) y.heap.size 126 aW (((dA B).take j).foldl (fun o (k:eW)=>k.asks.foldl (jJ B) o) ((jj B.aA).foldl (jJ B) [])) v' W/\(∀k,v'.ownBlock=some k->(y.heap.size<=k/\k<A.heap.size)∨C.heap.size<=k)/\ag (fun k=>k=g+1∨(y.heap.size<=k/\k<A.heap.size)) C W/\ag (fun k=>k=g+1) y W) (fun _ i _=>(dA B).length-(intOf i).toNat)
 case atStart=>exact⟨0,v3,af,rfl,akL,by simpa using cY,akN,uu,u4⟩
 case round =>
  clear akL cY akN uu u4;obtain⟨j,v',hj,rfl,hb,F,Q,u,u2⟩:=hrel;by_cases hlt:j<(dA B).length
  ·have aO:(j:Int)<((dA B).length:Int):=af;obtain⟨b1,o1,c1,cs1,e9,dX,hcl,hF,hcell⟩:=SS.aa.at j hlt ax;injection e9 with e9 _ gu;subst e9 gu;have L:=ae (HJ.aa j hlt);have yg:=HN.aa j;have hmm:=HLM.aa _ (bT hlt);generalize (dA B)[j]=m at *;generalize ((dA B).take j).foldl (λo (k:eW)=>k.asks.foldl (jJ B) o) ((jj B.aA).foldl (jJ B) [])=oj at *;obtain⟨P',ic⟩:∃P',Hid (P'=((dA B).take (j+1)).foldl (λo (k:eW)=>k.asks.foldl (jJ B) o) ((jj B.aA).foldl (jJ B) [])):=⟨_,ae rfl⟩;replace L:Hid (P'=m.asks.foldl (jJ B) oj):=ae (ic.aa.trans L.aa);have rQ:=hcell wr (u.more λk hk=>by
    rcases hk with h|h
    ·exact .inr (.inl h)
    ·exact .inr (.inr h))
   obtain⟨v1,G,v3',v4',v5,v6,rfl,g1,g2,g3,g4,g5,g6⟩:=hF.now;have Dr:Fx (λk=>M k∨k=g+1∨(y.heap.size<=k/\k<A.heap.size)) (λW=>aq aW m.asks G W) C:=hF.mono λW h=>by obtain⟨x1,x2,x3,x4,x5,x6,e,h1,h2,-⟩:=h;simp at e;obtain⟨-,rfl,-⟩:=e;exact h2
   have tk:=Fx.fix Dr ax Q3;have Z3:=u.size;have zH:Hid (ji (λk=>(M k∨k=g+1)∨v'.ownBlock=some k) aW m.asks G wr):=ae (tk.to u (λk hk=>by
    rcases hk with h|h
    ·exact .inr (.inl h)
    ·exact .inr (.inr h)) (λk hk t=>by
     rcases t with (h|h)|h
     ·exact .inl h
     ·exact .inr (.inl h)
     ·rcases Q k h with h|h
      ·exact .inr (.inr h)
      ·omega) ax)
   have q9:∀i,i<8->wr.cell? ⟨b1,o1+j*8+i,none⟩=(kj m v1 G v3' v4' v5 v6)[i]?:=λi hi=>(rQ i hi).trans Array.getElem?_toList
   have q0:wr.cell? ⟨b1,o1+j*8,none⟩=some (.int .i64 m.kind):=q9 0 ax;obtain⟨A1,c1,rfl⟩:=av g1;obtain⟨NT,NU,rfl⟩:=av g2;obtain⟨A3,c3,rfl⟩:=av g3;obtain⟨A4,c4,rfl⟩:=av g4;obtain⟨A5,c5,rfl⟩:=av g5;obtain⟨A6,c6,rfl⟩:=av g6;have t:=ah.new wr 156 (kj m (.slice A1 m.cG.length c1) (.slice NT m.asks.length NU) (.slice A3 m.entries.length c3) (.slice A4 m.eD.length c4) (.slice A5 m.dF.length c5) (.slice A6 m.ends.length c6));have D:=t.aS;clear hcell rQ hF Dr tk hcl dX g1 g2 g3 g4 g5 g6;go_upto_region 7 with fail;generalize wr.alloc _=w5 at *;clear q9 q0;have q8:=t.cell;have eO:=V.aa;have Et:=J.size;have MM:=D.size;have E:=u2.tr (ag.aU D (λk=>k=g+1));have Z:=F.st D;have ix:=hb.ay D;have ht5:=YC.aX E af;have U:=Z.blk;have E2:bA (λk=>M k∨k=g+1∨v'.ownBlock=some k) p B w5:=wF.aa.far E (λk hk=>.inr hk) (λk hk t=>by have:=N.aa k t;omega) (λk hk t=>by
    rcases t with h|h|h
    ·exact .inl h
    ·exact .inr h
    ·have:=(U k h).1;omega) (λk hk=>.inl (R.aa k hk)) (λk hk=>by
     rcases hk with h|h|h
     ·have:=HM.aa k h;have:=E.size;omega
     ·have:=E.size;omega
     ·exact (U k h).2)
   have C5:=ae (ab2 E2 HG.aa y.heap.size (g+1) g oj m.asks v' _ ix ht5 Z (zH.aa.st D) (λk hk=>hk.elim (λh=>WV) (λh=>af)) (.inr rfl) (.inr (.inl rfl)) (λk hk=>.inr (.inr hk)) (λt=>by have:=N.aa _ t;omega) (λk hk=>by have:=N.aa k hk;omega) af af (by have:=E.size;omega) yg (by have:=hmm.2.2;omega));rw[<- L.aa]at C5;clear E2 eO Et MM Z3 hb F Z ix ht5;go_wp2_with fail
   apply aI C5.aa;rintro w6⟨v6',jG,mQ,akO,u6⟩;have Z3:=u.size;have MM:=D.size;have aAd:∀k,v6'.ownBlock=some k->(y.heap.size<=k/\k<A.heap.size)∨C.heap.size<=k:=λk hk=>by
    rcases akO k hk with h|h
    ·exact Q k h
    ·exact .inr af
   have u7:=(u.tr (ag.aU D _)).gq u6 λk hk h=>by
    rcases h with h|h
    ·exact .inl h
    ·rcases Q k h with h|h
     ·exact .inr h
     ·omega
   have u8:=E.gq u6 λk hk h=>by
    rcases h with h|h
    ·exact h
    ·have:=(U k h).1;omega
   clear C5 q8 akO u6 Z3 MM U t;go_wp2;go_roundw
   case rel=>exact⟨j+1,v6',af,bD,jG,by rw[<- ic.aa];exact mQ,aAd,u7,u8⟩
   case measure=>simp[intOf];omega
  ·have aO:¬(j:Int)<((dA B).length:Int):=af;obtain rfl:j=(dA B).length:=af;rw[nc,<- HAB.aa]at F;have L:=ae ((F.less (Y':=M) λk hk=>.inl hk).fx λk hk=>by have:=HM.aa k hk;have:=J.size;omega);have kF:=u2.k J λk hk=>by have:=V.aa;omega
   have q9:=hb.cell;obtain⟨A9,c9,rfl⟩:=F.slice;clear F Q u u2 hb;go_wp2;go_ret;exact⟨_,rfl,L.aa,kF⟩
theorem jx.settle{l}(h:jx l) a:jx (fE l a):=by
 unfold fE;split
 ·exact h
 ·exact h.erase _
structure nr(B B':bf):Prop where
 me:B'.me=B.me
 par:B'.par=B.par
 ai:B'.ai=B.ai
 calls:B'.calls=B.calls
 bI:B'.bI=B.bI
 refused:B'.refused=B.refused
 told:B'.told=B.told
 waits:B'.waits=B.waits
 life:B'.st.life=B.st.life
theorem nr.rf B:nr B B:=⟨rfl,rfl,rfl,rfl,rfl,rfl,rfl,rfl,rfl⟩
theorem nr.tr{A B C}(h:nr A B)(k:nr B C):nr A C:=⟨k.me.trans h.me,k.par.trans h.par,k.ai.trans h.ai,k.calls.trans h.calls,k.bI.trans h.bI,k.refused.trans h.refused,k.told.trans h.told,k.waits.trans h.waits,k.life.trans h.life⟩
theorem ah2{s t r}(hk:r.kind≠1)(e:dW s r=some t):t.life=s.life:=by
 grind [dW,zu,xJ,xK,xL,zw]
theorem Ft{B r}(hk:r.kind≠1):nr B (dB B r).1:=by
 unfold dB;split
 ·split
  ·exact nr.rf B
  ·rename_i t j;exact⟨rfl,rfl,rfl,rfl,rfl,rfl,rfl,rfl,ah2 hk j⟩
 ·exact nr.rf B
theorem Ig{B}(j:bC B){r}(A:jA r):bC (dB B r).1:=by
 unfold dB;split
 ·rename_i u;simp only[dz]at u;split
  ·exact j
  ·rename_i t C;have y:=j.dk.next u.1 A u.2 C;exact⟨j.tr,j.me,j.hm,y,by
    show jx (if r.kind=2 then fE B.aA (au r.e)else B.aA);split
    ·exact j.tx.settle _
    ·exact j.tx,j.calls,j.bI,j.told,j.fB,j.waits,j.y5⟩
 ·exact j
theorem PF{n x}(hn:n<18446744073709551616)(j:cE x):jA (mF n x):=⟨Qt,hn,j,Qt,AE,AE⟩
theorem Vp{k a}(hk:bR k)(j:dJ a):jA (ju k a):=⟨hk,DY,FF,j.1,j.2.1,j.2.2⟩
theorem ac3{B}(hG:bC B){x}(j:cE x):bC (mD B x).1:=Ig hG (PF Cb j)
theorem ac4 B x:nr B (mD B x).1:=Ft (by simp[mF])
theorem aqv{B}(j:bC B){a}(t:dJ a):bC (nN B a).1:=by
 have h:=Ig j (Vp (k:=4) po t);unfold nN;split
 ·exact⟨h.tr,h.me,h.hm,h.dk,h.tx.settle _,h.calls,h.bI,h.told,h.fB,h.waits,h.y5⟩
 ·exact j
theorem aqw B a:nr B (nN B a).1:=by
 have h:=Ft (B:=B) (r:=ju 4 a) DY;unfold nN;split
 ·exact⟨h.me,h.par,h.ai,h.calls,h.bI,h.refused,h.told,h.waits,h.life⟩
 ·exact nr.rf B
