/-
  The walks of wire's reader: below, readID, readVote (layer 13). Conditions: none.
-/
import Derived.Test.YtfndfpdhlbmboaaGreatMd25
import Derived.Deep.CutBlock
import Derived.Test.YtfndfpdhlbmboaaGreatMdz
set_option maxRecDepth 100000
set_option linter.constructorNameAsVariable false
set_option maxHeartbeats 16000000
set_option linter.unusedVariables false
set_option linter.unusedSimpArgs false
namespace Go.Proofs.YtfndfpdhlbmboaaGreat
open Go Go.RowKit _root_.Go.Proofs.Tryz
def RW(gw g:Nat)(n:Int)(l:List UInt8)(wr j:Bool)(W:World):Prop:=ai W gw 264 #[.pointer (some ⟨g,0,none⟩),.int .i64 n,.bool j]/\Rd W g l wr/\g<gw
abbrev XW(gw g:Nat):Nat->Prop:=λk=>k=g∨k=gw
section
variable {gw g:Nat} {n:Int} {l l':List UInt8} {wr bd wr' Kq:Bool} {W W':World} {X:Nat->Prop}
theorem RW.st(h:RW gw g n l wr bd W)(k:K W W'):RW gw g n l wr bd W':=⟨h.1.ay k,h.2.1.ay k,h.2.2⟩
theorem RW.lt(h:RW gw g n l wr bd W):gw<W.heap.size:=h.1.lt
theorem ag.went(H:ox g l' wr' W W')(j:X g):ag X W W':=ag.eU H.2 (by rintro k e;cases e;exact j)
theorem RW.went(h:RW gw g n l wr bd W)(H:ox g l' wr' W W'):RW gw g n l' wr' bd W':=⟨h.1.went H (by have:=h.2.2;omega),H.1,h.2.2⟩
theorem RW.bad(h:RW gw g n l wr bd W):RW gw g n l wr true (W.setCell ⟨gw,2,none⟩ (.bool true)) :=
 ⟨h.1.aQ 2 _,h.2.1.set h.2.2 2 _,h.2.2⟩
theorem RW.far(h:RW gw g n l wr bd W){b}(hb:gw<b) i u:RW gw g n l wr bd (W.setCell ⟨b,i,none⟩ u) :=
 ⟨h.1.far ba u,h.2.1.set (by have:=h.2.2;omega) i u,h.2.2⟩
end
theorem Iq gw g n l wr u(j:Nat) w(h:RW gw g n l wr u w)(_:j<18446744073709551616) :
 Calls prog 191 #[.pointer (some ⟨gw,0,none⟩),.int .u64 j] w λe w' =>
  e=.returned (.int .u64 ((lZ j l wr u).1:Int))/\RW gw g n (lZ j l wr u).2.1 (lZ j l wr u).2.2.1 (lZ j l wr u).2.2.2 w'/\ag (XW gw g) w w':=by
 have B:=ae (tj g l wr w h.2.1)
 unfold lZ
 generalize aw l wr=a at *
 obtain⟨x,G,F⟩:=a
 simp only at B⊢
 have q:=h.1.cell
 by_cases C:x<j
 ·have D:¬(j:Int)<=x:=af;rw[if_pos C];simp only;go_enter func191,ntmps191;go_wp2_with fail
  apply aM B.aa;intro E t;have y:=h.went t;have A:=ag.went (X:=XW gw g) t (.inl rfl);clear q;go_wp2;go_ret;exact⟨rfl,y,A⟩
 ·have D:(j:Int)<=x:=af;rw[if_neg C];simp only;go_enter func191,ntmps191;go_wp2_with fail
  apply aM B.aa;intro E t;have y:=h.went t;have A:=ag.went (X:=XW gw g) t (.inl rfl);have q:=y.1.cell;have z:=y.1.frozen;go_wp2;go_ret;exact⟨rfl,y.bad,A.tr (ag.bM (X:=XW gw g) (.inr rfl) 2 _)⟩
theorem abT gw g n l wr t w(h:RW gw g n l wr t w) :
 Calls prog 198 #[.pointer (some ⟨gw,0,none⟩)] w λe w' =>
  e=.returned (.agg (dt (iT l wr t).1))/\RW gw g n (iT l wr t).2.1 (iT l wr t).2.2.1 (iT l wr t).2.2.2 w'/\ag (XW gw g) w w':=by
 have u:=λW hW=>Iq gw g n l wr t 16 W hW af
 have hlt:=zZ 16 af l wr t
 unfold iT Em my Cs
 generalize lZ 16 l wr t=a at *
 obtain⟨x,l1,eW,fJ⟩:=a
 simp only at u hlt⊢
 have D:=tj g l1 eW
 generalize aw l1 eW=a at *
 obtain⟨y,l2,wr2⟩:=a
 simp only at D⊢
 have E:=tj g l2 wr2
 generalize aw l2 wr2=a at *
 obtain⟨z,l3,Cz⟩:=a
 simp only at E⊢
 rw[show ((16:Nat):Int)=16 from rfl]at u
 replace u:=ae u
 replace D:=ae D
 replace E:=ae E
 have hwx:IntKind.i64.wrap (x:Int)=x:=LH
 have Q:=ai.new w 26 #[.int .i64 0,.int .u64 0,.int .u64 0]
 have h0:=h.st ((K.rf w).al (.cells #[.int .i64 0,.int .u64 0,.int .u64 0] 26))
 have u0:=ag.al (XW gw g) w (.cells #[.int .i64 0,.int .u64 0,.int .u64 0] 26)
 have O:=h.lt
 have hgg:=h.2.2
 clear h
 go_enter func198,ntmps198
 go_wp2_with fail
 generalize w.alloc _=w1 at *
 apply aM (u.aa w1 h0)
 rintro A⟨h2,I⟩
 have hz1:=Q.lt
 have R:=Q.aW I af
 have u02:=u0.tr I
 have hz2:=I.size
 have M:=ai.new A 26 #[.int .i64 x,.int .u64 0,.int .u64 0]
 have dN:=R.alloc (.cells #[.int .i64 x,.int .u64 0,.int .u64 0] 26)
 have G:=h2.st ((K.rf A).al (.cells #[.int .i64 x,.int .u64 0,.int .u64 0] 26))
 have u03:=u02.tr (ag.al (XW gw g) A (.cells #[.int .i64 x,.int .u64 0,.int .u64 0] 26))
 clear h0 Q u0 R h2 I u02 u
 go_upto_region 2 with (fail)
 generalize A.alloc _=w3 at *
 have ix:=M.lt
 generalize A.heap.size=j at *
 have q:=G.1.cell
 go_wp2_with fail
 apply aM (D.aa w3 G.2.1)
 intro V B
 have U:=G.went B
 have T:=dN.went B af
 have F:=M.went B af
 have S:=u03.tr (ag.went (X:=XW gw g) B (.inl rfl))
 clear q G dN M u03 B D
 have q:=F.cell
 have J:=F.frozen
 go_upto_region 3 with (fail)
 have dY:ai (V.setCell ⟨j,1,none⟩ (.int .u64 y)) j 26 #[.int .i64 x,.int .u64 y,.int .u64 0]:=F.aQ 1 _
 have L:=U.far (b:=j) af 1 (.int .u64 y)
 have iy:=T.far (p:=⟨j,1,none⟩) ba (.int .u64 y)
 have Y:=S.fresh (b:=j) af 1 (.int .u64 y)
 clear q J F U T S
 generalize V.setCell _ _=w5 at *
 have q:=L.1.cell
 go_wp2_with fail
 apply aM (E.aa w5 L.2.1)
 intro w6 C
 have h6:=L.went C
 have Z:=iy.went C af
 have H:=dY.went C af
 have u06:=Y.tr (ag.went (X:=XW gw g) C (.inl rfl))
 clear q L iy dY Y C E
 have q:=H.cell
 have J:=H.frozen
 go_upto_region 4 with (fail)
 have po:ai (w6.setCell ⟨j,2,none⟩ (.int .u64 z)) j 26 #[.int .i64 x,.int .u64 y,.int .u64 z]:=H.aQ 2 _
 have h7:=h6.far (b:=j) af 2 (.int .u64 z)
 have N:=Z.far (p:=⟨j,2,none⟩) ba (.int .u64 z)
 have u07:=u06.fresh (b:=j) af 2 (.int .u64 z)
 clear q J H h6 Z u06
 generalize w6.setCell _ _=w7 at *
 have q:=po.cell
 have y1:=N.cell
 have J:=N.frozen
 go_wp2
 have cX:=((N.aQ 0 (.int .i64 x)).aQ 1 (.int .u64 y)).aQ 2 (.int .u64 z)
 have h9:=((h7.far (b:=w.heap.size) O 0 (.int .i64 x)).far (b:=w.heap.size) O 1 (.int .u64 y)).far (b:=w.heap.size) O 2 (.int .u64 z)
 have u09:=((u07.fresh (b:=w.heap.size) (aD _) 0 (.int .i64 x)).fresh (b:=w.heap.size) (aD _) 1 (.int .u64 y)).fresh (b:=w.heap.size) (aD _) 2 (.int .u64 z)
 have e9:=cX.cell
 refine bodyPost_ret (v:=.agg #[.int .i64 x,.int .u64 y,.int .u64 z]) (by simp[results,results198,go_sem,e9]) rfl ?_
 exact⟨rfl,h9,u09⟩
theorem aoK gw g n l wr A w(h:RW gw g n l wr A w) :
 Calls prog 194 #[.pointer (some ⟨gw,0,none⟩)] w λe w' =>
  e=.returned (.agg (ib (nL l wr A).1))/\RW gw g n (nL l wr A).2.1 (nL l wr A).2.2.1 (nL l wr A).2.2.2 w'/\ag (XW gw g) w w':=by
 have E:=λW J=>abT gw g n l wr A W J
 unfold nL Em my
 generalize iT l wr A=a at *
 obtain⟨x,Q,O,L⟩:=a
 simp only at E⊢
 have B:=λW J=>Iq gw g n Q O L 2 W J af
 have hlt:=zZ 2 af Q O L
 generalize lZ 2 Q O L=a at *
 obtain⟨y,l2,wr2,bd2⟩:=a
 simp only at B hlt⊢
 rw[show ((2:Nat):Int)=2 from rfl]at B
 replace E:=ae E
 replace B:=ae B
 obtain⟨b,hb⟩:∃b:Bool,b=decide (y=1):=⟨_,rfl⟩
 have hyb:((y:Int)==1)=b:=by rw[hb,Bool.eq_iff_iff];simp;omega
 rw[<- hb]
 clear hb
 have R:=ai.new w 225 #[.int .i64 0,.int .u64 0,.int .u64 0,.bool false]
 have S:=h.st ((K.rf w).al (.cells #[.int .i64 0,.int .u64 0,.int .u64 0,.bool false] 225))
 have u0:=ag.al (XW gw g) w (.cells #[.int .i64 0,.int .u64 0,.int .u64 0,.bool false] 225)
 have I:=h.lt
 have hgg:=h.2.2
 clear h
 obtain⟨u,t,j⟩:=x
 go_enter func194,ntmps194
 go_wp2_with fail
 generalize w.alloc _=w1 at *
 apply aM (E.aa w1 S)
 rintro C⟨h2,G⟩
 have hz1:=R.lt
 have T:=R.aW G af
 have u02:=u0.tr G
 have hz2:=G.size
 have M:=ai.new C 225 #[.int .i64 u,.int .u64 t,.int .u64 j,.bool false]
 have dN:=T.alloc (.cells #[.int .i64 u,.int .u64 t,.int .u64 j,.bool false] 225)
 have U:=h2.st ((K.rf C).al (.cells #[.int .i64 u,.int .u64 t,.int .u64 j,.bool false] 225))
 have u03:=u02.tr (ag.al (XW gw g) C (.cells #[.int .i64 u,.int .u64 t,.int .u64 j,.bool false] 225))
 clear S R u0 T h2 G u02 E
 go_upto_region 2 with (fail)
 generalize C.alloc _=w3 at *
 have ix:=M.lt
 generalize C.heap.size=D at *
 go_wp2_with fail
 apply aM (B.aa w3 U)
 rintro Z⟨Y,H⟩
 have X:=dN.aW H af
 have F:=M.aW H af
 have V:=u03.tr H
 clear U dN M u03 H B
 have q:=F.cell
 have z1:=F.frozen
 go_upto_region 3 with (fail)
 have dY:ai (Z.setCell ⟨D,3,none⟩ (.bool b)) D 225 #[.int .i64 u,.int .u64 t,.int .u64 j,.bool b]:=F.aQ 3 _
 have h5:=Y.far (b:=D) af 3 (.bool b)
 have N:=X.far (p:=⟨D,3,none⟩) ba (.bool b)
 have u05:=V.fresh (b:=D) af 3 (.bool b)
 clear q z1 F Y X V
 generalize Z.setCell _ _=w5 at *
 have q:=dY.cell
 have y1:=N.cell
 have z1:=N.frozen
 go_wp2
 have cX:=(((N.aQ 0 (.int .i64 u)).aQ 1 (.int .u64 t)).aQ 2 (.int .u64 j)).aQ 3 (.bool b)
 have h9:=(((h5.far (b:=w.heap.size) I 0 (.int .i64 u)).far (b:=w.heap.size) I 1 (.int .u64 t)).far (b:=w.heap.size) I 2 (.int .u64 j)).far (b:=w.heap.size) I 3 (.bool b)
 have u09:=(((u05.fresh (b:=w.heap.size) (aD _) 0 (.int .i64 u)).fresh (b:=w.heap.size) (aD _) 1 (.int .u64 t)).fresh (b:=w.heap.size) (aD _) 2 (.int .u64 j)).fresh (b:=w.heap.size) (aD _) 3 (.bool b)
 have e9:=cX.cell
 refine bodyPost_ret (v:=.agg #[.int .i64 u,.int .u64 t,.int .u64 j,.bool b]) (by simp[results,results194,go_sem,e9]) rfl ?_
 exact⟨rfl,h9,u09⟩
theorem Vc{W W' b T C A n xs}(y:Reads W W.heap.size C A n xs)(hb:ai W b T eQ)(F:xs=[]∨∃u∈xs,u∉eQ.toList)
 (H:W.heap.size<=W'.heap.size) (hk:∀k,k<W.heap.size->k≠b->W'.heap[k]?=W.heap[k]?):Reads W' W'.heap.size C A n xs:=by
 refine⟨y.1,λI=>?_⟩
 obtain⟨g,D,e,hg,B⟩:=y.2 I
 have G:g≠b:=by
  rintro rfl;rcases F with rfl|⟨u,E,hn⟩
  ·grind
  ·obtain⟨j,t⟩:=List.mem_iff_getElem?.1 E;have J:=B j u t;rw[hb.cell]at J;grind
 refine⟨g,D,e,bz hg H,λj u t=>?_⟩
 rw[World.cell?_of_block (w:=W) (w':=W') (a:=⟨g,D+j,none⟩) (hk g hg G)]
 exact B j u t
theorem axK(l:List cZ):l.flatMap nI=[]∨∃u∈l.flatMap nI,u∉eQ.toList:=aiD
theorem axL(l:List dH):l.flatMap fR=[]∨∃u∈l.flatMap fR,u∉eQ.toList:=aiD
theorem axM{W W' b T x v}(h:dm x v W)(M:∀e∈x.es,e≠[])(hb:ai W b T eQ)
 (u:W.heap.size<=W'.heap.size) (hk:∀k,k<W.heap.size->k≠b->W'.heap[k]?=W.heap[k]?):dm x v W':=by
 obtain⟨vf,J,rfl,⟨A,c,rfl,G⟩,D,d,rfl,⟨css,j,E⟩,I⟩:=h
 refine⟨_,_,rfl,⟨A,c,rfl,Vc G hb (axL _) u hk⟩,D,d,rfl,⟨css,⟨j.1,λi H F=>?_⟩,Vc E hb ?_ u hk⟩,I⟩
 ·obtain⟨v,e,t,c1,rfl,C⟩:=j.2 i H F;exact⟨_,e,t,c1,rfl,Vc C hb (axK _) u hk⟩
 ·cases hes:x.es with
  | nil => refine .inl (List.eq_nil_of_length_eq_zero ?_);rw[j.Gl,hes];rfl
  | cons L es =>
   have B:0<x.es.length:=aA;have y:0<css.length:=by rw[j.1];exact B
   obtain⟨v,e,t,c1,rfl,C⟩:=j.2 0 B y;refine .inr ⟨.slice t x.es[0].length c1,List.mem_flatten.2 ⟨css[0],bZ y,aA⟩,?_⟩;simp_all
theorem auC b:∀e∈(mr b).es,e≠[]:=by
 unfold mr
 cases hd:iL b with
 | none=>simp[dD]
 | some x =>
  intro e j
  obtain⟨-,-,hk⟩:=DC (UC hd).2
  grind [mr,fN]
def y9(gb:Nat)(x:aK)(u:Value)(W:World):Prop:=∀W',ag (λk=>k<gb) W W'->dm x u W'
theorem aiE gb x:∀v w w',y9 gb x v w->Below w.heap.size w w'->y9 gb x v w':=by rintro v w w' h k;exact λW' u=>h W' ((ag.aT k _).tr u)
def RK(gb:Nat)(x:aK)(c:Int)(v:Value)(W:World):Prop:=∃u,v=.tuple #[u,.int .i64 c]/\y9 gb x u W
theorem axN gb x c:∀v w w',RK gb x c v w->Below w.heap.size w w'->RK gb x c v w':=by rintro v w w'⟨u,e,h⟩ k;exact⟨u,e,aiE _ _ _ _ _ h k⟩
def MF(gb:Nat)(T:TypeId)(v:Value)(W:World):Prop:=∃b,v=.pointer (some ⟨b,0,none⟩)/\gb<=b/\ai W b T eQ
theorem axO gb T:∀v w w',MF gb T v w->Below w.heap.size w w'->MF gb T v w':=by rintro v w w'⟨b,e,t,j⟩ k;exact⟨b,e,t,j.ay k⟩
theorem awm{gb g T}(hg:g<gb):∀v w w',MF gb T v w->w.grownBy w' (some g)->MF gb T v w':=by rintro v w w'⟨b,e,t,j⟩ k;exact⟨b,e,t,j.grown k aA⟩
theorem aeK{gb x u w w' b T}(h:y9 gb x u w)(G:∀e∈x.es,e≠[])(hb:ai w b T eQ)(hg:w.grownBy w' (some b)):y9 gb x u w':=by
 intro y up;obtain⟨j,A⟩:∃j:World,j={ y with heap:=y.heap.setIfInBounds b (.cells eQ T (0,0)) }:=⟨_,rfl⟩;have H:=bz hb.lt (bn hg.size up.size);have C:ai j b T eQ:=by grind [ai]
 have B:∀k,k≠b->j.heap[k]?=y.heap[k]?:=by
  grind
 have F:j.heap.size=y.heap.size:=aA;have E:ag (λk=>k<gb) w j:=by
  refine⟨?_,?_,?_,by rw[F];exact bn hg.size up.size,λk hk D=>?_⟩
  ·rw[A];exact up.os.trans hg.os
  ·rw[A];exact up.tape.trans hg.tape
  ·rw[A];exact up.output.trans hg.output
  ·by_cases t:k=b
   ·subst t;exact C.trans hb.symm
   ·rw[B k t,up.block k (bz hk hg.size) D];exact hg.block k hk aA
 exact axM (h j E) G C af (λk _ t=>(B k t).symm)
theorem arf{P ρ w} s x T ty t g o cur cells(hs:ρ s=.pointer (some ⟨g,o,none⟩))(hx:ρ x=.agg cells)(hb:ai w g t cur)
 (y:(P.info? T).map (·.size)=some cells.size) (B:o+cells.size<=cur.size) (j:∀u∈cells.toList,u.oneCell'=true) :
 ∃w',(execOp ρ (aG (.store T s x) ty)).run P w=.ok .skip w'/\ai w' g t (cur.toList.take o++cells.toList++cur.toList.drop (o+cells.size)).toArray/\w.grownBy w' (some g):=by
 have hst:=run_storeCells_at P g o t cells.toList 0 cur w hb af j
 simp only[Nat.add_zero,Array.length_toList]at hst
 refine⟨_,?_,setRow_heap w g cur _ t _ hb,⟨rfl,rfl,rfl,aj,λk hk A=>setRow_other w g k _ (λe=>A DU)⟩⟩
 cases hq:P.info? T with
 | none=>simp[hq]at y
 | some i => exact ahc
theorem aoC gw g n l wr y w(h:RW gw g n l wr y w)(hl:l.length<=1000000000)(hn0:0<=n)(dq:n<=1000000000) :
 Calls prog 196 #[.pointer (some ⟨gw,0,none⟩)] w λe w' =>
  ∃v,e=.returned v/\y9 w.heap.size (jd n l wr y).1 v w'/\RW gw g n (jd n l wr y).2.1 (jd n l wr y).2.2.1 (jd n l wr y).2.2.2 w'/\ag (XW gw g) w w':=by
 have C1:=λW (hW:Rd W g l wr)=>KY g l wr n W hW hl af af
 have BK:=IG n l wr
 unfold jd
 generalize aL n l wr=a at *
 obtain⟨bs,l1,eW⟩:=a
 simp only at C1 BK⊢
 have hne:=auC bs
 have Y:=λW v (hv:sl bs v W)=>Ug bs v W hv af
 obtain⟨j,Gf⟩:∃j,j=yI bs:=⟨_,rfl⟩
 obtain⟨x,N⟩:∃x,x=mr bs:=⟨_,rfl⟩
 have HC:Hid (j=0/\(y||(iL bs).isNone)=y∨j=110/\(y||(iL bs).isNone)=true):=ae (by
  rw[Gf];unfold yI;cases iL bs <;> simp)
 simp only[<- Gf,<- N]at Y hne⊢
 clear Gf N
 generalize (y||(iL bs).isNone)=bd9 at *
 have C1:=ae C1
 have Y:=ae Y
 have HN:=ae hne
 clear hne
 have dc:=ai.new w 126 eQ
 have h0:=h.st ((K.rf w).al (.cells eQ 126))
 have u0:=ag.al (XW gw g) w (.cells eQ 126)
 have ez:=h.lt
 have hgg:=h.2.2
 clear h
 go_enter func196,ntmps196
 go_upto_region 1 with (fail)
 generalize w.alloc _=w1 at *
 obtain⟨gb,hgb⟩:∃gb,gb=w1.heap.size:=⟨_,rfl⟩
 have MV:w.heap.size<gb:=by rw[hgb];exact dc.lt
 obtain⟨C,M⟩:∃C:World->Prop,C=λW=>ag (XW gw g) w W/\gb<=W.heap.size/\ai W w.heap.size 126 eQ/\ai W gw 264 #[.pointer (some ⟨g,0,none⟩),.int .i64 n,.bool y]:=⟨_,rfl⟩
 have hg:∀W W',C W->Below W.heap.size W W'->C W':=by subst M;rintro W W'⟨B,h2,h3,h4⟩ hb;exact⟨B.tr (ag.aT hb _),bn h2 hb.size,h3.ay hb,h4.ay hb⟩
 have hc0:C w1:=by rw[M];exact⟨u0,by omega,dc,h0.1⟩
 obtain⟨F,U⟩:∃F:(Nat->Bool)->(Nat->Value)->World->Prop,F=λL V W=>C W/\RW gw g n l1 eW y W/\(∃u,V 10=.tuple #[u,.int .i64 j])/\(L 12=true->V 12=.int .i64 j)/\(L 15=true->V 15=.int .i64 j) /\
  ∃b vf H,V 13=.pointer (some ⟨b,0,none⟩)/\gb<=b/\ai W b 126 (aE x vf H)/\y9 gb x (.agg (aE x vf H)) W:=⟨_,rfl⟩
 refine aoJ 8 14 [0,1,2,3,4,5,6,7,8,9,10,11,13] [15] C (λW=>RW gw g n l wr y W) (λW=>RW gw g n l1 eW y W) (λW W'=>W.grownBy W' (some g)) F [aJ (.pointer (some ⟨gw,0,none⟩)),
  aJ (.pointer (some ⟨gw,0,none⟩)),
  aJ (.pointer (some ⟨gw,0,none⟩)),
  aJ (.pointer (some ⟨g,0,none⟩)),
  aJ (.pointer (some ⟨gw,0,none⟩)),
  aJ (.pointer (some ⟨gw,0,none⟩)),
  aJ (.pointer (some ⟨gw,1,none⟩)),
  aJ (.int .i64 n),
  sl bs,
  RK gb x j,
  RK gb x j,
  y9 gb x,
  aJ (.int .i64 j),
  MF gb 126,
  Rh,
  aJ (.int .i64 j)]
  [([],[]),([0],[(6,0)]),([1],[(7,1)]),([2],[(8,2)]),([],[]),([4],[(10,4)]),([5],[(11,5)]),([6],[(12,6)]),([3,7],[(9,3),(13,7)]),([8],[(14,8)]),([9],[(15,9)]),([10],[(5,10)]),([10],[(5,10)]),([],[]),([10,13,11],[(3,13),(16,11)]),([12,14],[(17,12)])] 24 rfl cV cV cV ax ax ax cV cV hg (λW W' h k=>h.st k) (λW W' h k=>h.st k) (by exact hg _ _ hc0 (Below.drew (cT _ _))) (h0.st (Below.drew (cT _ _))) ?st ?st2 ?ow ?_
 case st =>
  simp only[cF]
  and_intros
  all_goals first|exact ayg _|exact awJ|exact oh _|exact axN _ _ _|exact aiE _ _|exact axO _ _|simp
 case st2 =>
  simp only[List.zipIdx_cons,List.zipIdx_nil,cF,mQ,Nat.reduceAdd]
  and_intros
  all_goals first|exact .inl rfl|exact .inr (λ_ _ _ h _=>h)|exact .inr (awm af)|simp
 case ow =>
  simp only[Jg,Jd,List.contains_cons,List.contains_nil,Nat.reduceBEq,Bool.or_false,Bool.or_true,Bool.false_eq_true,if_true,if_false,Nat.reduceEqDiff,Nat.reduceAdd,and_true,true_and]
  and_intros
  all_goals try trivial
  all_goals
   first
   | (intro V w' A hp
      rw[M]at A
      obtain⟨E,S,G,dP⟩:=A
      have q:=dP.cell
      try simp only[cF,bW,bY,aJ]at hp
      try (simp[bR,aF,List.lookup,hp,bW,bY,cW,execOp,aG,aJ,undef,cT,q,go_sem];done))
   | skip
  ·have hD:=hp;intro hp2;simp only[cF,bW,bY,aJ]at hp2;simp[aF,List.lookup,hp2,bW,bY,Rg,execOp,aG,go_sem];refine (C1.aa w' hD.2.1).mono ?_;rintro e w2⟨v,rfl,oA,T⟩;refine⟨v,rfl,oA,?_,hD.went T,T.2⟩;rw[M];exact⟨E.tr (ag.went T (.inl rfl)),bn S T.2.size,G.went T af,dP.went T af⟩
  ·simp[bR,aF,List.lookup,bW,bY,cW,execOp,aG,go_sem];refine (Y.aa w' (V 8) hp.1).mono ?_;rintro e w2⟨v,rfl,Q,k⟩;exact⟨_,rfl,⟨v,rfl,λW' u=>Q W' (u.rY (λk B _ _ N=>af))⟩,k⟩
  ·obtain⟨⟨u,e9,B⟩,-⟩:=hp;simp[e9,bR,aF,List.lookup,bW,bY,cW,execOp,aG,go_sem];exact⟨B,cT _ _⟩
  ·intro L V w' qY R Od;rw[U]at Od⊢;obtain⟨A,D,⟨u,e9⟩,-,Hu,hrest⟩:=Od;generalize hA:aF [(5,10)] _ V=I;have e5:I (.tmp 5)=.tuple #[u,.int .i64 j]:=by rw[<- hA];exact e9
   have Z:(execOp I (aG (.extract (.tmp 5) 1) 29)).run prog w'=.ok (.value (.int .i64 j)) w':=by simp[e5,execOp,aG,go_sem]
   rw[Z];refine⟨A,D,⟨u,fP⟩,λ_=>cV,λh=>?_,?_⟩
   ·have:=Hu fP;simpa [bj]using this
   ·assumption
  ·obtain⟨⟨u,e9,B⟩,-⟩:=hp;simp[e9,bR,aF,List.lookup,bW,bY,cW,execOp,aG,aJ,cT,go_sem]
  ·simp[bR,bW,bY,cW,execOp,aG,go_sem];exact⟨⟨w'.heap.size,rfl,S,ai.new _ _ _⟩,(K.rf w').al _⟩
  ·intro L V w' R A D hp;have hd':=D;have f10:=hp 10 (R 10 aj);have f11:=hp 11 (R 11 aj);have f13:=hp 13 (R 13 aj);have f12:=hp 12;have f15:=hp 15;simp only[bW,bY,aJ]at f10 f11 f13 f12 f15;obtain⟨u10,fO,-⟩:=f10;obtain⟨b,zH,pg,hblk⟩:=f13;obtain⟨vf,H,p9,hf,Q⟩:=f11 w' (ag.rf _ _);rw[p9]at f11;generalize hA:aF [(3,13),(16,11)] _ V=I;have es4:I (.tmp 3)=.pointer (some ⟨b,0,none⟩):=by rw[<- hA];exact zH
   have ex4:I (.tmp 16)=.agg (aE x vf H):=by rw[<- hA];exact p9
   obtain⟨w'',Z,hb2,t⟩:=arf (P:=prog) (ρ:=I) (.tmp 3) (.tmp 16) 126 0 126 b 0 eQ (aE x vf H) es4 ex4 hblk cV aj (aV.one (x:=x) (w:=w') ⟨vf,H,rfl,hf,Q⟩);rw[Z];rw[M]at A;obtain⟨E,S,G,dP⟩:=A;have J:Below gb w' w'':=⟨t.os,t.tape,t.output,t.size,λi hi=>t.block i (bz hi S) aA⟩;show F _ _ w'';rw[U];refine⟨?_,⟨hd'.1.below J af,hd'.2.1.below J af,hd'.2.2⟩,⟨u10,fP⟩,λh=>?_,λh=>?_,b,vf,H,fP,pg,hb2,aeK f11 HN.aa hblk t⟩
   ·rw[M];exact⟨⟨t.os.trans E.os,t.tape.trans E.tape,t.output.trans E.output,bn E.size t.size,λk hk N=>(J.block k af).trans (E.block k hk N)⟩,bn S t.size,G.below J af,dP.below J af⟩
   ·have:=f12 fP;simpa [bj]using this
   ·have:=f15 fP;simpa [bj]using this
  ·intro L V w' qY R Od;rw[U]at Od⊢;obtain⟨A,D,Q,h12,-,hrest⟩:=Od;have Dj:=h12 (R 12 aj);generalize hA:aF [(17,12)] _ V=I;have e5:I (.tmp 17)=.int .i64 j:=by rw[<- hA];exact Dj
   have Z:(execOp I (aG (.assign (.tmp 17)) 29)).run prog w'=.ok (.value (.int .i64 j)) w':=by simp[e5,execOp,aG,go_sem]
   rw[Z];refine⟨A,D,fP,λ_=>fP,λ_=>cV,fP⟩
 intro V W Oa
 rw[U]at Oa
 obtain⟨A,D,-,-,Hu,b,vf,H,zH,pg,hblk,ED⟩:=Oa
 have ru:=Hu ax
 rw[M]at A
 obtain⟨E,S,G,-⟩:=A
 obtain⟨kM,ES,e9,hf,Q⟩:=ED W (ag.rf _ _)
 obtain⟨rfl,rfl⟩:vf=kM/\H=ES:=by
  grind
 obtain⟨A9,c9,rfl⟩:=cA hf
 obtain⟨D9,d9,rfl⟩:=av Q
 have lL:=ae ED
 clear U M hg hc0 ED hf Q e9 Hu h0 u0 dc C1 Y
 simp only[fZ,Act.put,sC,rI,rH,zH,ru]
 have aFc:w.heap.size<b:=af
 have fin:∀(W1:World) (fJ:Bool),ag (XW gw g) w W1->ai W1 w.heap.size 126 eQ->RW gw g n l1 eW fJ W1->y9 w.heap.size x (.agg (aE x (.slice A9 x.f.length c9) (.slice D9 x.es.length d9))) W1 ->
  ∃O,O=ef W1 w.heap.size 0 (aE x (.slice A9 x.f.length c9) (.slice D9 x.es.length d9)).toList/\ai O w.heap.size 126 (aE x (.slice A9 x.f.length c9) (.slice D9 x.es.length d9))/\y9 w.heap.size x (.agg (aE x (.slice A9 x.f.length c9) (.slice D9 x.es.length d9))) O/\RW gw g n l1 eW fJ O/\ag (XW gw g) w O:=by
  intro W1 fJ B h2 h3 h4
  have us:=ag.sets (X:=λk=>k=w.heap.size) (g:=w.heap.size) rfl (aE x (.slice A9 x.f.length c9) (.slice D9 x.es.length d9)).toList 0 W1
  have cX:=(((((((h2.aQ 0 (.int .i64 x.kind)).aQ 1 (.int .i64 x.br)).aQ 2 (.int .u64 x.life)).aQ 3 (.int .u64 x.b6)).aQ 4 (.int .i64 x.cl)).aQ 5 (.int .u64 x.sub)).aQ 6 (.slice A9 x.f.length c9)).aQ 7 (.slice D9 x.es.length d9)
  have t:W1.grownBy (ef W1 w.heap.size 0 (aE x (.slice A9 x.f.length c9) (.slice D9 x.es.length d9)).toList) (some w.heap.size):=⟨us.os,us.tape,us.output,us.size,λk hk hne=>us.block k hk aA⟩
  have J:Below w.heap.size W1 (ef W1 w.heap.size 0 (aE x (.slice A9 x.f.length c9) (.slice D9 x.es.length d9)).toList):=⟨us.os,us.tape,us.output,us.size,λk hk=>us.block k (Nat.lt_trans hk h2.lt) af⟩
  exact⟨_,rfl,cX,aeK h4 HN.aa h2 t,⟨h3.1.below J ez,h3.2.1.below J af,h3.2.2⟩,⟨us.os.trans B.os,us.tape.trans B.tape,us.output.trans B.output,bn B.size us.size,λk hk N=>(J.block k hk).trans (B.block k hk N)⟩⟩
 have akT:=ae fin
 have ajZ:y9 w.heap.size x (.agg (aE x (.slice A9 x.f.length c9) (.slice D9 x.es.length d9))) W:=λW' up=>lL.aa W' ⟨up.os,up.tape,up.output,up.size,λk hk N=>up.block k hk af⟩
 clear fin lL
 rcases HC.aa with ⟨rfl,rfl⟩|⟨rfl,rfl⟩
 ·have q:=hblk.cell;have y1:=G.cell;have z1:=G.frozen;obtain⟨O,Ha,aY,Bm,uZ,Kr⟩:=akT.aa W bd9 E G D ajZ;exact aiF
 ·have q:=hblk.cell;have y1:=G.cell;have z1:=G.frozen;have q2:=D.1.cell;have z2:=D.1.frozen;have ub:=ag.bM (W:=W) (X:=λk=>k<w.heap.size) (b:=gw) ez 2 (.bool true);obtain⟨O,Ha,aY,Bm,uZ,Kr⟩:=akT.aa (W.setCell ⟨gw,2,none⟩ (.bool true)) true (E.tr (ag.bM (X:=XW gw g) (.inr rfl) 2 _)) (G.far (p:=⟨gw,2,none⟩) ba _) D.bad (λW' up=>ajZ W' (ub.tr up));exact aiF
theorem ayJ:(prog.info? 225).map (λi=>(i.zero,i.size,i.bytes))=some (some (.agg #[.int .i64 0,.int .u64 0,.int .u64 0,.bool false]),4,32):=by rfl
theorem azt:fY prog 154 225 (.agg #[.int .i64 0,.int .u64 0,.int .u64 0,.bool false]) 4 32:=⟨underlying154,ayJ,rfl,ax⟩
theorem axP:(prog.info? 26).map (λi=>(i.zero,i.size,i.bytes))=some (some (.agg #[.int .i64 0,.int .u64 0,.int .u64 0]),3,24):=by rfl
theorem TID:fY prog 44 26 (.agg #[.int .i64 0,.int .u64 0,.int .u64 0]) 3 24:=⟨underlying44,axP,rfl,ax⟩
theorem awn:(prog.info? 126).map (λi=>(i.zero,i.size,i.bytes))=some (some (.agg eQ),8,96):=by rfl
theorem ayK:fY prog 43 126 (.agg eQ) 8 96:=⟨underlying43,awn,rfl,ax⟩
def oz{α:Type}(S:ei α)(gb:Nat)(l:List α)(v:Value)(W:World):Prop:=∀W',ag (λk=>k<gb) W W'->aq S l v W'
theorem aoL gw g n l t y w(h:RW gw g n l t y w)(_:l.length<=1000000000)(_:0<=n)(_:n<=1000000000) :
 Calls prog 193 #[.pointer (some ⟨gw,0,none⟩),.func (Fn.func 194) #[] #[]] w λe w' =>
  ∃v,e=.returned v/\oz oG w.heap.size (ia nL l t y).1 v w'/\RW gw g n (ia nL l t y).2.1 (ia nL l t y).2.2.1 (ia nL l t y).2.2.2 w'/\ag (XW gw g) w w':=by
 have H:=Iq gw g n l t y 17 w h af
 have T:=zZ 17 af l t y
 have Z:=(zV 17 af).len l t y
 unfold ia
 generalize lZ 17 l t y=a at *
 obtain⟨M,C,B,A⟩:=a
 simp only at H T Z⊢
 rw[show ((17:Nat):Int)=17 from rfl]at H
 have H:=ae H
 have ez:=h.lt
 have hgg:=h.2.2
 have HQ:=ae (λk=>K4 UH k C B A)
 clear h
 have S:Hid (gK nL M C B A=gK nL M C B A):=ae rfl
 generalize Q:gK nL M C B A=R at S⊢
 have fy:=ae Q
 clear Q S
 go_enter func193,ntmps193
 go_wp2_with fail
 apply aM H.aa
 rintro w1⟨I,N⟩
 have hz1:=N.size
 go_wp2_with fail
 go_loopw [5,8] (fun o i W=>∃j:Nat,j<=M/\i=.int .u64 j/\∃es E D F,Hid (gK nL j C B A=(es,E,D,F))/\RW gw g n E D F W/\Hid (aX w.heap.size w.heap.size 225 oG es o W)/\ag (XW gw g) w W) (fun _ i _=>M-(intOf i).toNat)
 case atStart=>exact⟨0,af,rfl,[],C,B,A,ae rfl,I,ae (aX.nil _ _ _ _ _),N⟩
 case round =>
  clear I N;obtain⟨j,hj,rfl,es,E,D,F,HJ,Df,HO,uj⟩:=hrel;have L:=HQ.aa j;rw[HJ.aa]at L;simp only at L;obtain⟨lI,O⟩:=L;have Bh:=ae O;have aj0:es.length<=17:=af;clear O;have hzj:=uj.size;by_cases wj:j<M
  ·have aP:(j:Int)<M:=af;have Bi:Hid (gK nL (j+1) C B A=(es++[(nL E D F).1],(nL E D F).2)):=ae Xz;go_wp2_with fail
   apply aM (aoK gw g n E D F wr Df);rintro G⟨Gw,u4⟩;generalize Y:nL E D F=X at *;obtain⟨x,lk,Dw,Dx⟩:=X;simp only at Gw;have CZ:Hid (gK nL (j+1) C B A=(es++[x],lk,Dw,Dx)):=ae XA;have cI:=HO.aa.up (aD _) (u4.rY (lo:=w.heap.size) (row:=none) (λk I _ _ hx=>af));have lq:=HO.aa.blk;have gM:=u4.size;obtain⟨css,hown,hcl,lJ⟩:=cI;have kA:=K.new G (.cells (ib x) 225);have U:w.heap.size<=(G.alloc (.cells (ib x) 225)).heap.size:=LI;clear HO HJ Bi Y;go_wp2_with (at_builtin;refine iW rfl _ _ 154 rfl w.heap.size 225 _ 4 32 azt _ _ _ rfl (qG hown _) (G.heap.size+1) _ 1 1 (ib x).toList rfl ?c1 ?c2 ?c3 U ?_)
   case c1=>exact Reads.new G (ib x).toList 225 4 1 rfl
   case c2=>and_intros <;> rfl
   case c3=>omega
   intro v9 J gg bC cY aY;have pV:Below w.heap.size (G.alloc (.cells (ib x) 225)) J:=aY;have Y7:RW gw g n lk Dw Dx J:=XB;have u9:ag (XW gw g) w J:=XC;have xY:=ae (aX.snoc (cs:=(ib x).toList) hcl (λw' u=>lJ w' (aI.tr (aI.aT kA _ _) u)) gg bC rE (λw' u=>rfl));exact XD
  ·have aP:¬(j:Int)<M:=af;obtain rfl:j=M:=af;have V:=HJ.aa.symm.trans fy.aa;obtain rfl:=V;have HL:Hid (oz oG w.heap.size es u5 wr):=ae λW' u=>(HO.aa.up (aD _) (u.rY (lo:=w.heap.size) (row:=none) (λk I _ _ hx=>af))).aq
   exact XE
theorem abU gw g n l t y w(h:RW gw g n l t y w)(_:l.length<=1000000000)(_:0<=n)(_:n<=1000000000) :
 Calls prog 197 #[.pointer (some ⟨gw,0,none⟩),.func (Fn.func 198) #[] #[]] w λe w' =>
  ∃v,e=.returned v/\oz cd w.heap.size (ia iT l t y).1 v w'/\RW gw g n (ia iT l t y).2.1 (ia iT l t y).2.2.1 (ia iT l t y).2.2.2 w'/\ag (XW gw g) w w':=by
 have H:=Iq gw g n l t y 17 w h af
 have T:=zZ 17 af l t y
 have Z:=(zV 17 af).len l t y
 unfold ia
 generalize lZ 17 l t y=a at *
 obtain⟨M,C,B,A⟩:=a
 simp only at H T Z⊢
 rw[show ((17:Nat):Int)=17 from rfl]at H
 have H:=ae H
 have ez:=h.lt
 have hgg:=h.2.2
 have HQ:=ae (λk=>K4 Ip k C B A)
 clear h
 have S:Hid (gK iT M C B A=gK iT M C B A):=ae rfl
 generalize Q:gK iT M C B A=R at S⊢
 have fy:=ae Q
 clear Q S
 go_enter func197,ntmps197
 go_wp2_with fail
 apply aM H.aa
 rintro w1⟨I,N⟩
 have hz1:=N.size
 go_wp2_with fail
 go_loopw [5,8] (fun o i W=>∃j:Nat,j<=M/\i=.int .u64 j/\∃es E D F,Hid (gK iT j C B A=(es,E,D,F))/\RW gw g n E D F W/\Hid (aX w.heap.size w.heap.size 26 cd es o W)/\ag (XW gw g) w W) (fun _ i _=>M-(intOf i).toNat)
 case atStart=>exact⟨0,af,rfl,[],C,B,A,ae rfl,I,ae (aX.nil _ _ _ _ _),N⟩
 case round =>
  clear I N;obtain⟨j,hj,rfl,es,E,D,F,HJ,Df,HO,uj⟩:=hrel;have L:=HQ.aa j;rw[HJ.aa]at L;simp only at L;obtain⟨lI,O⟩:=L;have Bh:=ae O;have aj0:es.length<=17:=af;clear O;have hzj:=uj.size;by_cases wj:j<M
  ·have aP:(j:Int)<M:=af;have Bi:Hid (gK iT (j+1) C B A=(es++[(iT E D F).1],(iT E D F).2)):=ae Xz;go_wp2_with fail
   apply aM (abT gw g n E D F wr Df);rintro G⟨Gw,u4⟩;generalize Y:iT E D F=X at *;obtain⟨x,lk,Dw,Dx⟩:=X;simp only at Gw;have CZ:Hid (gK iT (j+1) C B A=(es++[x],lk,Dw,Dx)):=ae XA;have cI:=HO.aa.up (aD _) (u4.rY (lo:=w.heap.size) (row:=none) (λk I _ _ hx=>af));have lq:=HO.aa.blk;have gM:=u4.size;obtain⟨css,hown,hcl,lJ⟩:=cI;have kA:=K.new G (.cells (dt x) 26);have U:w.heap.size<=(G.alloc (.cells (dt x) 26)).heap.size:=LI;clear HO HJ Bi Y;go_wp2_with (at_builtin;refine iW rfl _ _ 44 rfl w.heap.size 26 _ 3 24 TID _ _ _ rfl (qG hown _) (G.heap.size+1) _ 1 1 (dt x).toList rfl ?c1 ?c2 ?c3 U ?_)
   case c1=>exact Reads.new G (dt x).toList 26 3 1 rfl
   case c2=>and_intros <;> rfl
   case c3=>omega
   intro v9 J gg bC cY aY;have pV:Below w.heap.size (G.alloc (.cells (dt x) 26)) J:=aY;have Y7:RW gw g n lk Dw Dx J:=XB;have u9:ag (XW gw g) w J:=XC;have xY:=ae (aX.snoc (cs:=(dt x).toList) hcl (λw' u=>lJ w' (aI.tr (aI.aT kA _ _) u)) gg bC rE (λw' u=>rfl));exact XD
  ·have aP:¬(j:Int)<M:=af;obtain rfl:j=M:=af;have V:=HJ.aa.symm.trans fy.aa;obtain rfl:=V;have HL:Hid (oz cd w.heap.size es u5 wr):=ae λW' u=>(HO.aa.up (aD _) (u.rY (lo:=w.heap.size) (row:=none) (λk I _ _ hx=>af))).aq
   exact XE
theorem TZ gw g n l t y w(h:RW gw g n l t y w)(hl:l.length<=1000000000)(hn0:0<=n)(dq:n<=1000000000) :
 Calls prog 195 #[.pointer (some ⟨gw,0,none⟩),.func (Fn.func 196) #[] #[]] w λe w' =>
  ∃v,e=.returned v/\oz aV w.heap.size (ia (jd n) l t y).1 v w'/\RW gw g n (ia (jd n) l t y).2.1 (ia (jd n) l t y).2.2.1 (ia (jd n) l t y).2.2.2 w'/\ag (XW gw g) w w':=by
 have O:=Iq gw g n l t y 17 w h af
 have hlt:=zZ 17 af l t y
 have jX:=(zV 17 af).len l t y
 unfold ia
 generalize lZ 17 l t y=a at *
 obtain⟨M,C,B,A⟩:=a
 simp only at O hlt jX⊢
 rw[show ((17:Nat):Int)=17 from rfl]at O
 have O:=ae O
 have ez:=h.lt
 have hgg:=h.2.2
 have HQ:=ae (λk=>K4 (FB n) k C B A)
 clear h
 have HR:Hid (gK (jd n) M C B A=gK (jd n) M C B A):=ae rfl
 generalize Fk:gK (jd n) M C B A=R at HR⊢
 have fy:=ae Fk
 clear Fk HR
 go_enter func195,ntmps195
 go_wp2_with fail
 apply aM O.aa
 rintro w1⟨J,U⟩
 have hz1:=U.size
 go_wp2_with fail
 go_loopw [5,8] (fun o i W=>∃j:Nat,j<=M/\i=.int .u64 j/\∃es E D F,Hid (gK (jd n) j C B A=(es,E,D,F))/\RW gw g n E D F W/\Hid (aX w.heap.size w.heap.size 126 aV es o W)/\ag (XW gw g) w W) (fun _ i _=>M-(intOf i).toNat)
 case atStart=>exact⟨0,af,rfl,[],C,B,A,ae rfl,J,ae (aX.nil _ _ _ _ _),U⟩
 case round =>
  clear J U;obtain⟨j,hj,rfl,es,E,D,F,HJ,Df,HO,uj⟩:=hrel;have T:=HQ.aa j;rw[HJ.aa]at T;simp only at T;obtain⟨lI,Y⟩:=T;have Bh:=ae Y;have aj0:es.length<=17:=af;clear Y;have hzj:=uj.size;by_cases wj:j<M
  ·have aP:(j:Int)<M:=af;have Bi:Hid (gK (jd n) (j+1) C B A=(es++[((jd n) E D F).1],((jd n) E D F).2)):=ae Xz;go_wp2_with fail
   apply bS (aoC gw g n E D F wr Df af hn0 dq);rintro v4 I⟨Q,Gw,u4⟩;generalize hX:jd n E D F=X at *;obtain⟨x,lk,Dw,Dx⟩:=X;simp only at Q Gw;obtain⟨vf,ve,rfl,hf,Z⟩:=Q I (ag.rf _ _);obtain⟨L,H,rfl⟩:=cA hf;obtain⟨G,N,rfl⟩:=av Z;have lL:=ae Q;clear Q hf Z;have CZ:Hid (gK (jd n) (j+1) C B A=(es++[x],lk,Dw,Dx)):=ae XA;have cI:=HO.aa.up (aD _) (u4.rY (lo:=w.heap.size) (row:=none) (λk J _ _ hx=>af));have lq:=HO.aa.blk;have gM:=u4.size;obtain⟨css,hown,hcl,lJ⟩:=cI;have kA:=K.new I (.cells (aE x (.slice L x.f.length H) (.slice G x.es.length N)) 126);have hbase:w.heap.size<=(I.alloc (.cells (aE x (.slice L x.f.length H) (.slice G x.es.length N)) 126)).heap.size:=LI;clear HO HJ Bi hX;go_wp2_with (at_builtin;refine iW rfl _ _ 43 rfl w.heap.size 126 _ 8 96 ayK _ _ _ rfl (qG hown _) (I.heap.size+1) _ 1 1 (aE x (.slice L x.f.length H) (.slice G x.es.length N)).toList rfl ?c1 ?c2 ?c3 hbase ?_)
   case c1=>exact Reads.new I (aE x (.slice L x.f.length H) (.slice G x.es.length N)).toList 126 8 1 rfl
   case c2=>and_intros <;> rfl
   case c3=>omega
   intro v9 S gg bC cY aY;have pV:Below w.heap.size (I.alloc (.cells (aE x (.slice L x.f.length H) (.slice G x.es.length N)) 126)) S:=aY;have Y7:RW gw g n lk Dw Dx S:=XB;have u9:ag (XW gw g) w S:=XC;have xY:=ae (aX.snoc (cs:=(aE x (.slice L x.f.length H) (.slice G x.es.length N)).toList) hcl (λw' u=>lJ w' (aI.tr (aI.aT kA _ _) u)) gg bC rE (λw' u=>by
    obtain⟨vf,ve,V,J,h2⟩:=lL.aa w' ⟨u.os,u.tape,u.output,bn kA.size u.size,λk hk hx=>(u.block k af (bz hk kA.size) aA).trans (kA.block k hk)⟩;simp only[Value.agg.injEq,Array.mk.injEq,List.cons.injEq,and_true,true_and]at V;obtain⟨rfl,rfl⟩:=V;exact⟨_,_,rfl,J,h2⟩))
   exact XD
  ·have aP:¬(j:Int)<M:=af;obtain rfl:j=M:=af;have hR:=HJ.aa.symm.trans fy.aa;obtain rfl:=hR;have HL:Hid (oz aV w.heap.size es u5 wr):=ae λW' u=>(HO.aa.up (aD _) (u.rY (lo:=w.heap.size) (row:=none) (λk J _ _ hx=>af))).aq
   exact XE
abbrev zML:List Value:=[.int .i64 0,.int .u64 0,.slice none 0 0,.slice none 0 0,.slice none 0 0,.slice none 0 0,.slice none 0 0,.slice none 0 0]
abbrev Jy:Array Value:=#[.int .i64 0,.int .u64 0,.slice none 0 0,.slice none 0 0,.slice none 0 0,.slice none 0 0,.slice none 0 0,.slice none 0 0]
theorem awo w:mj uH (.agg Jy) w:=⟨_,_,_,_,_,_,rfl,gI _ _,gI _ _,gI _ _,gI _ _,gI _ _,gI _ _⟩
structure DM(w0:World)(r g gw h:Nat)(n:Int)(l:List UInt8)(wr bd:Bool)(cs:Array Value)(W:World):Prop where
 rw:RW gw g n l wr bd W
 x:ai W h 156 cs
 rv:ai W r 156 Jy
 k:K w0 W
 o:w0.heap.size<=r/\r<g/\g<gw/\gw<h
section
variable {w0 W W':World} {r g gw h:Nat} {n:Int} {l l':List UInt8} {wr bd wr' Kq:Bool} {cs:Array Value}
theorem DM.aW(D:DM w0 r g gw h n l wr bd cs W)(u:ag (XW gw g) W W')(t:RW gw g n l' wr' Kq W'):DM w0 r g gw h n l' wr' Kq cs W':=by
 have o:=D.o;have k:=D.k;exact⟨t,D.x.aW u aiG,D.rv.aW u aiG,
  ⟨u.os.trans k.os,u.tape.trans k.tape,u.output.trans k.output,bn k.size u.size,λi j=>(u.block i (bz j k.size) af).trans (k.block i j)⟩,o⟩
theorem DM.set(D:DM w0 r g gw h n l wr bd cs W) i u:DM w0 r g gw h n l wr bd (cs.setIfInBounds i u) (W.setCell ⟨h,i,none⟩ u):=by have o:=D.o;exact⟨D.rw.far o.2.2.2 i u,D.x.aQ i u,D.rv.far aA u,D.k.setCell aA u,o⟩
theorem DM.st(D:DM w0 r g gw h n l wr bd cs W)(k:K W W'):DM w0 r g gw h n l wr bd cs W':=⟨D.rw.st k,D.x.ay k,D.rv.ay k,D.k.tr k,D.o⟩
theorem ag.mono{X j}(h:ag X W W')(u:∀k,X k->j k):ag j W W':=⟨h.os,h.tape,h.output,h.size,λk A y=>h.block k A (λt=>y (u k t))⟩
theorem oz.less{α S gb j}{x:List α}{v}(t:oz S gb x v W)(hg:j<=gb):oz S j x v W:=λW' u=>t W' (u.mono (λk hk=>af))
theorem oz.mv{α S gb}{x:List α}{v}(y:oz S gb x v W)(u:ag (λk=>k<gb) W W'):oz S gb x v W':=λj t=>y j (u.tr t)
theorem oz.sl{α S gb}{x:List α}{v}(j:oz S gb x v W):∃A c,v=.slice A x.length c:=av (j W (ag.rf _ _))
theorem IL{α}(S:ei α) gb W:oz S gb [] (.slice none 0 0) W:=λ_ _=>gI _ _
end
def Oe(h:Nat)(m:fH)(y j B u t A:Value)(W:World):Prop:=oz oG (h+1) m.cU y W/\oz aV (h+1) m.asks j W/\oz aV (h+1) m.entries B W/\oz aV (h+1) m.fe u W/\oz cd (h+1) m.dQ t W/\oz cd (h+1) m.ends A W
structure DL(w0:World)(r g gw h:Nat)(n:Int)(l:List UInt8)(wr bd:Bool)(m:fH)(v1 v2 v3 v4 v5 v6:Value)(W:World):Prop where
 d:DM w0 r g gw h n l wr bd (lA m v1 v2 v3 v4 v5 v6) W
 m:Oe h m v1 v2 v3 v4 v5 v6 W
section
variable {w0 W W':World} {r g gw h:Nat} {n:Int} {l l':List UInt8} {wr bd wr' Kq:Bool} {m m':fH} {v1 v2 v3 v4 v5 v6 u1 u2 u3 u4 u5 u6:Value}
theorem Oe.mv(H:Oe h m v1 v2 v3 v4 v5 v6 W)(u:ag (λk=>k<h+1) W W'):Oe h m v1 v2 v3 v4 v5 v6 W' :=
 ⟨H.1.mv u,H.2.1.mv u,H.2.2.1.mv u,H.2.2.2.1.mv u,H.2.2.2.2.1.mv u,H.2.2.2.2.2.mv u⟩
theorem DL.go(D:DL w0 r g gw h n l wr bd m v1 v2 v3 v4 v5 v6 W)(u:ag (XW gw g) W W')(j:RW gw g n l' wr' Kq W'):DL w0 r g gw h n l' wr' Kq m v1 v2 v3 v4 v5 v6 W' :=
 ⟨D.d.aW u j,D.m.mv (u.mono λk hk=>by have:=D.d.o;rcases hk with hk|hk <;> omega)⟩
theorem DL.put(D:DL w0 r g gw h n l wr bd m v1 v2 v3 v4 v5 v6 W) i v(H:Oe h m' u1 u2 u3 u4 u5 u6 W)(e:(lA m v1 v2 v3 v4 v5 v6).setIfInBounds i v=lA m' u1 u2 u3 u4 u5 u6):DL w0 r g gw h n l wr bd m' u1 u2 u3 u4 u5 u6 (W.setCell ⟨h,i,none⟩ v) :=
 ⟨e▸D.d.set i v,H.mv (ag.bM (X:=λk=>k<h+1) (Nat.lt_succ_self h) i v)⟩
theorem DM.put(D:DM w0 w0.heap.size g gw h n l wr bd (lA m v1 v2 v3 v4 v5 v6) W) us(j:us.length=8):ai (ef W w0.heap.size 0 us) w0.heap.size 156 us.toArray/\K w0 (ef W w0.heap.size 0 us)/\ag (λk=>k<h+1) W (ef W w0.heap.size 0 us) :=
 ⟨FU D.rv j,K.sets (aD _) _ _ _ D.k,ag.sets (X:=λk=>k<h+1) VY _ _ _⟩
end
theorem ao3 b v w(hb:sl b v w)(hn:b.length<=1000000000) :
 Calls prog 113 #[v] w λe w'=>∃v',e=.returned (.tuple #[v',.int .i64 (xD b)])/\(∀W,ag (λk=>k<w.heap.size) w' W->mj (pM b) v' W)/\K w w':=by
 obtain⟨A,c,rfl,t⟩:=hb
 have dc:=ai.new w 156 Jy
 have k0:=dc.aU
 have Bg:=(t.below k0 (aD _)).more k0.size
 obtain⟨n,Bb⟩:∃n:Int,n=(b.length:Int):=⟨_,rfl⟩
 have hn0:0<=n:=af
 have dq:n<=1000000000:=af
 obtain⟨k,l1,eW,E,pr⟩:∃k l1 eW E,lZ 3 b false false=(k,l1,eW,E):=⟨_,_,_,_,rfl⟩
 obtain⟨got,H,I,r7⟩:∃got H I,aw l1 eW=(got,H,I):=⟨_,_,_,rfl⟩
 have hHd:gL b false false=((k,got),H,I,E):=by simp only[gL,my,Cs,pr,r7]
 have jh:k<3:=by have:=zZ 3 (by omega) b false false;rw[pr]at this;exact this
 have ew:H.length<=1000000000:=by have g1:=(zV 3 af).len b false false;have g2:=nV l1 eW;rw[pr]at g1;rw[r7]at g2;simp only at g1 g2;omega
 have hwk:IntKind.i64.wrap (k:Int)=k:=LH
 have Z:=λgw g W h=>Iq gw g n b false false 3 W h af
 have C2:=λg W h=>tj g l1 eW W h
 simp only[pr,r7]at Z C2
 rw[show ((3:Nat):Int)=3 from rfl]at Z
 have Y:Hid (tI b=if !(nj n b false false).2.2.2&&(!(nj n b false false).2.2.1&&(nj n b false false).2.1.isEmpty)&&ed (nj n b false false).1 then some (nj n b false false).1 else none):=ae (by rw[Bb];rfl)
 have V:=ae hHd
 have Z:=ae Z
 have C2:=ae C2
 have Ic:Hid (xD b=if (tI b).isSome then 0 else 130):=ae rfl
 have HMX:Hid (pM b=(tI b).getD uH):=ae rfl
 generalize xD b=CK at *
 generalize pM b=MX at *
 have hzz:w.heap.size<(w.alloc (.cells Jy 156)).heap.size:=aj
 clear hHd pr r7 t
 go_enter func113,ntmps113
 go_wp2_with fail
 generalize w.alloc _=w1 at *
 refine (KW A _ c b w1 _ Bg (aD _) hn).mono ?_
 rintro e w2⟨g,rfl,hg,ph,k2⟩
 have bA:=dc.ay k2
 have hrg:=bz hzz hg
 replace k0:=k0.tr k2
 have fL:=ph.lt
 clear Bg k2 dc hzz hg
 have hw3:RW w2.heap.size g n b false false (w2.alloc (.cells #[.pointer (some ⟨g,0,none⟩),.int .i64 b.length,.bool false] 264)):=by rw[<- Bb];exact⟨ai.new _ _ _,ph.al _,fL⟩
 have U:=K.new w2 (.cells #[.pointer (some ⟨g,0,none⟩),.int .i64 b.length,.bool false] 264)
 go_upto_region 2 with (fail)
 generalize w2.alloc _=w3 at *
 have dN:=bA.ay U
 have O:=k0.tr U
 generalize ez:w2.heap.size=gw at *
 have aAL:=hw3.lt
 clear U bA k0 ph ez
 go_wp2_with fail
 refine (Z.aa gw g w3 hw3).mono ?_
 rintro e w4⟨rfl,h4,L⟩
 have eF:=dN.aW L af
 have gM:=h4.lt
 have D:DM w w.heap.size g gw w4.heap.size n l1 eW E #[.int .i64 k,.int .u64 0,.slice none 0 0,.slice none 0 0,.slice none 0 0,.slice none 0 0,.slice none 0 0,.slice none 0 0]
  (w4.alloc (.cells #[.int .i64 k,.int .u64 0,.slice none 0 0,.slice none 0 0,.slice none 0 0,.slice none 0 0,.slice none 0 0,.slice none 0 0] 156)):=by
  have U:=(K.rf w4).al (.cells #[.int .i64 k,.int .u64 0,.slice none 0 0,.slice none 0 0,.slice none 0 0,.slice none 0 0,.slice none 0 0,.slice none 0 0] 156)
  refine⟨h4.st U,ai.new _ _ _,eF.ay U,Below.tr ?_ U,aD _,hrg,fL,gM⟩
  exact⟨L.os.trans O.os,L.tape.trans O.tape,L.output.trans O.output,bn O.size L.size,λi hi=>(L.block i (bz hi O.size) af).trans (O.block i hi)⟩
 clear hw3 dN O h4 L eF Z
 go_upto_region 3 with (fail)
 generalize w4.alloc _=w5 at *
 generalize w4.heap.size=h at *
 have q:=D.rw.1.cell
 go_wp2_with fail
 refine (C2.aa g w5 D.rw.2.1).mono ?_
 rintro e w6⟨rfl,sO⟩
 replace D:=D.aW (ag.went (X:=XW gw g) sO (.inl rfl)) (D.rw.went sO)
 clear q sO C2
 have q:=D.x.cell
 have z:=D.x.frozen
 go_upto_region 4 with (fail)
 replace D:DL w w.heap.size g gw h n H I E ⟨k,got,[],[],[],[],[],[]⟩ (.slice none 0 0) (.slice none 0 0) (.slice none 0 0) (.slice none 0 0) (.slice none 0 0) (.slice none 0 0) (w6.setCell ⟨h,1,none⟩ (.int .u64 got)):=⟨D.set 1 _,IL _ _ _,IL _ _ _,IL _ _ _,IL _ _ _,IL _ _ _,IL _ _ _⟩
 clear q z
 generalize w6.setCell _ _=w7 at *
 have o:=D.d.o
 clear Bb Z aAL gM
 have q:=D.d.x.cell
 go_upto_block 0 with (fail)
 clear q
 go_cut []from 24 to 45 (fun W=>∃(M:fH) (l:List UInt8) (wr bd:Bool) (v1 v2 v3 v4 v5 v6:Value),DL w w.heap.size g gw h n l wr bd M v1 v2 v3 v4 v5 v6 W/\Hid (tI b=if !bd&&(!wr&&l.isEmpty)&&ed M then some M else none))
 case first =>
  by_cases gE:k=1
  ·subst gE;have y:=Y.aa;rw[V8 V.aa]at y;obtain⟨S,R,T,Ih,N⟩:∃x l w c,ia nL H I E=(x,l,w,c):=⟨_,_,_,_,rfl⟩;have J:=bn ((xq UH).len H I E) ew;have C:=λW F=>aoL gw g n H I E W F ew hn0 dq
   simp only[N]at C J;have C:=ae C;obtain⟨x2,l4,TG,TH,Q⟩:∃x l w c,ia (jd n) R T Ih=(x,l,w,c):=⟨_,_,_,_,rfl⟩;have kL:=bn ((xq (FB n)).len R T Ih) J;have B:=λW F=>TZ gw g n R T Ih W F J hn0 dq
   simp only[Q]at B kL;have B:=ae B;simp only[AR,my,N,Q]at y;have HD:=ae y;clear Y V hwk y N Q;go_wp2_with fail
   refine (C.aa w7 D.d.rw).mono ?_;rintro e G⟨v,rfl,j,t,u⟩;replace j:=j.less (show h+1<=w7.heap.size from D.d.x.lt);obtain⟨A3,c3,rfl⟩:=j.sl;replace D:=D.go u t;clear u t C;have q:=D.d.x.cell;have z:=D.d.x.frozen;go_upto_region 7 with (fail);replace D:=D.put (m':=⟨1,got,S,[],[],[],[],[]⟩) 2 _ ⟨j,D.m.2⟩ rfl;clear q z j;generalize G.setCell _ _=Og at *;go_wp2_with fail
   refine (B.aa Og D.d.rw).mono ?_;rintro e G⟨v,rfl,j,t,u⟩;replace j:=j.less (show h+1<=Og.heap.size from D.d.x.lt);obtain⟨A4,c4,rfl⟩:=j.sl;replace D:=D.go u t;clear u t B;have q:=D.d.x.cell;have z:=D.d.x.frozen;go_upto_region 13 with (fail);replace D:=D.put (m':=⟨1,got,S,x2,[],[],[],[]⟩) 3 _ ⟨D.m.1,j,D.m.2.2⟩ rfl;clear q z j;generalize G.setCell _ _=wb4 at *;exact XF
  by_cases hk2:k=2
  ·subst hk2;have y:=Y.aa;rw[V9 V.aa]at y;obtain⟨S,R,T,Ih,N⟩:∃x l w c,ia (jd n) H I E=(x,l,w,c):=⟨_,_,_,_,rfl⟩;have J:=bn ((xq (FB n)).len H I E) ew;have C:=λW F=>TZ gw g n H I E W F ew hn0 dq
   simp only[N]at C J;have C:=ae C;obtain⟨x2,l4,TG,TH,Q⟩:∃x l w c,ia (jd n) R T Ih=(x,l,w,c):=⟨_,_,_,_,rfl⟩;have kL:=bn ((xq (FB n)).len R T Ih) J;have B:=λW F=>TZ gw g n R T Ih W F J hn0 dq
   simp only[Q]at B kL;have B:=ae B;obtain⟨x3,l5,wr5,bd5,E4⟩:∃x l w c,ia iT l4 TG TH=(x,l,w,c):=⟨_,_,_,_,rfl⟩;have CY:=bn ((xq Ip).len l4 TG TH) kL;have L5:=λW F=>abU gw g n l4 TG TH W F kL hn0 dq
   simp only[E4]at L5 CY;have L5:=ae L5;obtain⟨x4,l6,wr6,bd6,hB6⟩:∃x l w c,ia iT l5 wr5 bd5=(x,l,w,c):=⟨_,_,_,_,rfl⟩;have hl6:=bn ((xq Ip).len l5 wr5 bd5) CY;have L6:=λW F=>abU gw g n l5 wr5 bd5 W F CY hn0 dq
   simp only[hB6]at L6 hl6;have L6:=ae L6;simp only[pS,my,N,Q,E4,hB6]at y;have HD:=ae y;clear Y V hwk y N Q E4 hB6;go_wp2_with fail
   refine (C.aa w7 D.d.rw).mono ?_;rintro e G⟨v,rfl,j,t,u⟩;replace j:=j.less (show h+1<=w7.heap.size from D.d.x.lt);obtain⟨A3,c3,rfl⟩:=j.sl;replace D:=D.go u t;clear u t C;have q:=D.d.x.cell;have z:=D.d.x.frozen;go_upto_region 10 with (fail);replace D:=D.put (m':=⟨2,got,[],[],S,[],[],[]⟩) 4 _ ⟨D.m.1,D.m.2.1,j,D.m.2.2.2⟩ rfl;clear q z j;generalize G.setCell _ _=Og at *;go_wp2_with fail
   refine (B.aa Og D.d.rw).mono ?_;rintro e G⟨v,rfl,j,t,u⟩;replace j:=j.less (show h+1<=Og.heap.size from D.d.x.lt);obtain⟨A4,c4,rfl⟩:=j.sl;replace D:=D.go u t;clear u t B;have q:=D.d.x.cell;have z:=D.d.x.frozen;go_upto_region 11 with (fail);replace D:=D.put (m':=⟨2,got,[],[],S,x2,[],[]⟩) 5 _ ⟨D.m.1,D.m.2.1,D.m.2.2.1,j,D.m.2.2.2.2⟩ rfl;clear q z j;generalize G.setCell _ _=wb4 at *;go_wp2_with fail
   refine (L5.aa wb4 D.d.rw).mono ?_;rintro e G⟨v,rfl,j,t,u⟩;replace j:=j.less (show h+1<=wb4.heap.size from D.d.x.lt);obtain⟨A5,c5,rfl⟩:=j.sl;replace D:=D.go u t;clear u t L5;have q:=D.d.x.cell;have z:=D.d.x.frozen;go_upto_region 12 with (fail);replace D:=D.put (m':=⟨2,got,[],[],S,x2,x3,[]⟩) 6 _ ⟨D.m.1,D.m.2.1,D.m.2.2.1,D.m.2.2.2.1,j,D.m.2.2.2.2.2⟩ rfl;clear q z j;generalize G.setCell _ _=wb5 at *;go_wp2_with fail
   refine (L6.aa wb5 D.d.rw).mono ?_;rintro e G⟨v,rfl,j,t,u⟩;replace j:=j.less (show h+1<=wb5.heap.size from D.d.x.lt);obtain⟨A6,c6,rfl⟩:=j.sl;replace D:=D.go u t;clear u t L6;have q:=D.d.x.cell;have z:=D.d.x.frozen;go_upto_region 13 with (fail);replace D:=D.put (m':=⟨2,got,[],[],S,x2,x3,x4⟩) 7 _ ⟨D.m.1,D.m.2.1,D.m.2.2.1,D.m.2.2.2.1,D.m.2.2.2.2.1,j⟩ rfl;clear q z j;generalize G.setCell _ _=wb6 at *;exact XF
  have y:=Y.aa;rw[ajB V.aa gE hk2]at y;have HD:=ae y;have hkk:¬(k:Int)=1:=af;have aFd:¬(k:Int)=2:=af;clear Y V gE hk2 hwk y;exact XF
 case rest =>
 clear D Y V
 obtain⟨M,l,wr,bd,v1,v2,v3,v4,v5,v6,D,HD⟩:=hcut
 obtain⟨A1,c1,rfl⟩:=D.m.1.sl
 obtain⟨A2,c2,rfl⟩:=D.m.2.1.sl
 obtain⟨A3,c3,rfl⟩:=D.m.2.2.1.sl
 obtain⟨A4,c4,rfl⟩:=D.m.2.2.2.1.sl
 obtain⟨A5,c5,rfl⟩:=D.m.2.2.2.2.1.sl
 obtain⟨A6,c6,rfl⟩:=D.m.2.2.2.2.2.sl
 have Kl:Hid (∀W,ag (λk=>k<h+1) wc W->mj M (.agg (lA M (.slice A1 M.cU.length c1) (.slice A2 M.asks.length c2) (.slice A3 M.entries.length c3) (.slice A4 M.fe.length c4) (.slice A5 M.dQ.length c5) (.slice A6 M.ends.length c6))) W):=ae λW u=>⟨_,_,_,_,_,_,rfl,D.m.1 W u,D.m.2.1 W u,D.m.2.2.1 W u,D.m.2.2.2.1 W u,D.m.2.2.2.2.1 W u,D.m.2.2.2.2.2 W u⟩
 replace D:=D.d
 obtain⟨dn,td⟩:∃dn,dn=(!wr&&l.isEmpty):=⟨_,rfl⟩
 obtain⟨ok,hok⟩:∃ok,ok=ed M:=⟨_,rfl⟩
 rw[<- td,<- hok]at HD
 have HDN:=ae td
 have j0:=ae hok
 clear td hok
 have qw:=D.rw.1.cell
 cases bd
 rotate_left
 ·exact XG
 go_wp2_with fail
 refine (KM g _ _ _ D.rw.2.1).mono ?_
 rintro e w8⟨rfl,rfl⟩
 rw[<- HDN.aa]
 cases dn
 ·exact XG
 have qm:=D.x.cell
 go_wp2_with fail
 refine (ab2 M (.agg (lA M (.slice A1 M.cU.length c1) (.slice A2 M.asks.length c2) (.slice A3 M.entries.length c3) (.slice A4 M.fe.length c4) (.slice A5 M.dQ.length c5) (.slice A6 M.ends.length c6))) wc (Kl.aa _ (ag.rf _ _))).mono ?_
 rintro e w9⟨rfl,k9⟩
 replace D:=D.st k9
 clear qw qm
 cases ok
 ·have GF:iU M=130:=by unfold iU;rw[<- j0.aa];rfl
  rw[GF];clear GF;exact XG
 have GF:iU M=0:=by unfold iU;rw[<- j0.aa];rfl
 rw[GF]
 clear GF
 have q:=D.rv.cell
 have q2:=D.x.cell
 have z:=D.rv.frozen
 have aj1:Hid (tI b=some M):=ae (by rw[HD.aa];simp)
 obtain rfl:CK=0:=by rw[Ic.aa,aj1.aa];rfl
 obtain rfl:MX=M:=by rw[HMX.aa,aj1.aa];rfl
 go_wp2
 have P9:=D.put [.int .i64 MX.kind,.int .u64 MX.got,.slice A1 MX.cU.length c1,.slice A2 MX.asks.length c2,.slice A3 MX.entries.length c3,.slice A4 MX.fe.length c4,.slice A5 MX.dQ.length c5,.slice A6 MX.ends.length c6] rfl
 simp only[ef,Nat.reduceAdd,mQ]at P9
 clear q q2 z
 generalize World.setCell _ _ _=W9 at *
 have e9:=P9.1.cell
 have o:=D.o
 refine bodyPost_ret (v:=.tuple #[.agg (lA MX (.slice A1 MX.cU.length c1) (.slice A2 MX.asks.length c2) (.slice A3 MX.entries.length c3) (.slice A4 MX.fe.length c4) (.slice A5 MX.dQ.length c5) (.slice A6 MX.ends.length c6)),.int .i64 0]) aiH rfl ?_
 exact⟨_,rfl,λW u=>Kl.aa W (((ag.aT k9 _).tr P9.2.2).tr (u.mono λk hk=>bz hk af)),P9.2.1⟩
