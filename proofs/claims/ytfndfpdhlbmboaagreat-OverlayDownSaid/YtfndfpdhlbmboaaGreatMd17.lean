/-
  Subscriptions in memory; the walks of table.keep (layer 15). Conditions: lists of at most a million.
-/
import Derived.Test.YtfndfpdhlbmboaaGreatMd16
import Derived.Test.YtfndfpdhlbmboaaGreatMdz
set_option maxRecDepth 100000
set_option linter.constructorNameAsVariable false
set_option maxHeartbeats 16000000
set_option linter.unusedVariables false
set_option linter.unusedSimpArgs false
namespace Go.Proofs.YtfndfpdhlbmboaaGreat
open Go Go.RowKit _root_.Go.Proofs.Tryz
abbrev YM(x:mc)(vf:Value):List Value:=[.int .i64 x.cl,.int .u64 (x.sub:Int),vf]
abbrev mZ(x:mc)(vf:Value):Array Value:=#[.int .i64 x.cl,.int .u64 (x.sub:Int),vf]
def iI:ei mc where
 size:=3
 rel x cs w:=∃vf,cs=YM x vf/\fF x.f vf w
 len:=by rintro _ _ _⟨vf,rfl,_⟩;rfl
 one:=by rintro x _ _⟨vf,rfl,A,c,rfl,_⟩ u j;simp at j;rcases j with rfl|rfl|rfl <;> rfl
 st:=by rintro _ _ _ _⟨vf,rfl,h⟩ k;exact⟨vf,rfl,eO _ _ _ _ h k⟩
def sub(x:mc)(v:Value)(w:World):Prop:=∃vf,v=.agg (mZ x vf)/\fF x.f vf w
theorem ajH{x v w w'}(h:sub x v w)(k:K w w'):sub x v w':=by obtain⟨vf,rfl,h⟩:=h;exact⟨vf,rfl,eO _ _ _ _ h k⟩
theorem ayC:(prog.info? 246).map (λi=>(i.zero,i.size,i.bytes))=some (some (.agg #[.int .i64 0,.int .u64 0,.slice none 0 0]),3,40):=by rfl
theorem SQ:fY prog 132 246 (.agg #[.int .i64 0,.int .u64 0,.slice none 0 0]) 3 40:=⟨underlying132,ayC,rfl,ax⟩
theorem KJ{α:Type}(q:α->Bool)(l:List α)(j:Nat)(h:j<l.length):(l.take (j+1)).filter q=(l.take j).filter q++(if q l[j]then [l[j]]else []):=by rw[gJ h,List.filter_append];by_cases t:q l[j] <;> simp[t]
theorem FA M l v q(f:Nat) cs w(h:jl M iI l v w)(hlen:l.length<=1000000)(hf:∀args W,(callFunc f args).run prog W=.ok (.enter f args) W)
 (Q:∀W,K w W->∀x∈l,∀u,sub x u W->Calls prog f (#[u]++cs) W λe W'=>e=.returned (.bool (q x))/\K W W') :
 Calls prog 167 #[v,.func (.func f) #[] cs] w λe w'=>∃v',e=.returned v'/\aB M w.heap.size 246 iI (l.filter q) v' w'/\K w w':=by
 have H:=ae h
 have HC:=ae Q
 have L:=K.rf w
 have hO:=aB.nil M w.heap.size 246 iI w
 obtain⟨A,c,rfl⟩:=h.slice
 clear h Q
 go_enter func167,ntmps167
 go_wp2_with fail
 go_loopw [5,7,10] (fun o _ i W=>∃j:Nat,j<=l.length/\i=.int .i64 j/\aB M w.heap.size 246 iI ((l.take j).filter q) o W/\K w W) (fun _ _ i _=>l.length-(intOf i).toNat)
 case atStart=>exact⟨0,af,rfl,fP,L⟩
 case round =>
  clear hO L;obtain⟨j,hj,rfl,hO,kr⟩:=hrel;by_cases E:j<l.length
  ·have aP:(j:Int)<l.length:=af;obtain⟨b,N,c',cs1,F,fu,hcl,G,d⟩:=H.aa.at j E ax;injection F with F _ e2;subst F e2;have HT:=ae (KJ q l j E);have hm:=bZ E;generalize l[j]=x at *;obtain⟨vf,rfl,C⟩:=G.now;have V:Fx (λk=>M k∨w.heap.size<=k) (λW=>iI.rel x (Value.agg (mZ x vf)).cells.toList W) wr:=G.to (X:=λ_=>False) (ag.aT kr _) (λ_ h=>h.elim) λk hk t=>t.resolve_right af
   have dd:∀i,i<3->wr.cell? ⟨b,N+j*3+i,none⟩=(mZ x vf)[i]?:=λi hi=>(d wr (ag.aT kr _) i hi).trans Array.getElem?_toList
   have d0:wr.cell? ⟨b,N+j*3,none⟩=some (.int .i64 x.cl):=dd 0 ax;have t:=ai.new wr 246 (mZ x vf);have y:=t.aU;obtain⟨D,B,rfl⟩:=cA C;have iV:=kr.tr y;have U:=hO.st y;have Y:=V.k y;have C1:=ae (HC.aa _ iV x hm (.agg (mZ x (.slice D x.f.length B))) ⟨_,rfl,eO _ _ _ _ C (kr.tr y)⟩);clear hcl C G V d hm hO;go_upto_region 5 with (fail);generalize wr.alloc _=w1 at *;clear dd d0;have q7:=t.cell;go_wp2_with fail
   apply cG C1.aa iV;intro J I ry;have cH:=U.st I;have O:=Y.k I;have q72:=(t.ay I).cell;clear C1 q7 U Y t y;cases hq:q x
   ·exact ahp
   have nh:Hid ((l.take (j+1)).filter q=(l.take j).filter q++[x]):=ae WO;have bT:=cH.blk;have Z:=eD.new (S:=iI) (e:=246) (v:=.agg (mZ x (.slice D x.f.length B))) O 0 (eV _);have T:=cH.st ((K.rf J).al (.cells (mZ x (.slice D x.f.length B)) 246));have R:=ry.tr ((K.rf J).al (.cells (mZ x (.slice D x.f.length B)) 246));have C:=mw q (l.take j);have xe:(l.take j).length<=1000000:=ba;clear cH O;go_wp2_with (at_builtin;refine jN rfl _ _ 132 rfl _ 3 40 SQ rfl rfl T _ rfl x ?p1 ?p2 ?p3 ?_)
   case p1=>exact Z.less λk hk=>ahq
   case p2=>omega
   case p3=>exact R.size
   intro v9 w9 bq bC _ aY;rw[<- nh.aa]at bq;have iz:=R.trans aY;clear Z T q72;exact Qu
  ·exact Lw
theorem acz M l v q(f:Nat) cs w(h:jl M cO l v w)(hlen:l.length<=1000000)(hf:∀args W,(callFunc f args).run prog W=.ok (.enter f args) W)
 (J:∀W,K w W->∀x∈l,∀u,ji x u W->Calls prog f (#[u]++cs) W λe W'=>e=.returned (.bool (q x))/\K W W') :
 Calls prog 170 #[v,.func (.func f) #[] cs] w λe w'=>∃v',e=.returned v'/\aB M w.heap.size 51 cO (l.filter q) v' w'/\K w w':=by
 have H:=ae h
 have Y:=ae J
 have G:=K.rf w
 have hO:=aB.nil M w.heap.size 51 cO w
 obtain⟨A,c,rfl⟩:=h.slice
 clear h J
 go_enter func170,ntmps170
 go_wp2_with fail
 go_loopw [5,7,10] (fun o _ i W=>∃j:Nat,j<=l.length/\i=.int .i64 j/\aB M w.heap.size 51 cO ((l.take j).filter q) o W/\K w W) (fun _ _ i _=>l.length-(intOf i).toNat)
 case atStart=>exact⟨0,af,rfl,fP,G⟩
 case round =>
  clear hO G;obtain⟨j,hj,rfl,hO,kr⟩:=hrel;by_cases t:j<l.length
  ·have aP:(j:Int)<l.length:=af;obtain⟨b,V,c',cs1,B,fu,hcl,C,d⟩:=H.aa.at j t ax;injection B with B _ e2;subst B e2;have HT:=ae (KJ q l j t);have hm:=bZ t;generalize l[j]=x at *;obtain⟨Q,rfl,D⟩:=C.now;have R:Fx (λk=>M k∨w.heap.size<=k) (λW=>cO.rel x [Q] W) wr:=C.to (X:=λ_=>False) (ag.aT kr _) (λ_ h=>h.elim) λk hk Z=>Z.resolve_right af
   have d0:wr.cell? ⟨b,V+j,none⟩=some Q:=by simpa [cO]using d wr (ag.aT kr _) 0 (by decide)
   obtain⟨y,E,rfl⟩:=yy D;have U:=ae (Y.aa _ kr x hm _ (qC _ _ _ _ D kr));clear hcl D C d hm;go_wp2_with fail
   apply cG U.aa kr;intro F N ry;have cH:=hO.st N;have I:=R.k N;clear U hO R d0;cases hq:q x
   ·exact ahp
   have nh:Hid ((l.take (j+1)).filter q=(l.take j).filter q++[x]):=ae WO;have bT:=cH.blk;have T:=eD.new (S:=cO) (e:=51) (v:=.slice y x.length E) I 0 (eV _);have O:=cH.st ((K.rf F).al (.cells #[.slice y x.length E] 51));have L:=ry.tr ((K.rf F).al (.cells #[.slice y x.length E] 51));have cR:=mw q (l.take j);have xe:(l.take j).length<=1000000:=ba;clear cH I;go_wp2_with (at_builtin;refine jN rfl _ _ 37 rfl _ 1 24 JD rfl rfl O _ rfl x ?p1 ?p2 ?p3 ?_)
   case p1=>exact T.less λk hk=>ahq
   case p2=>omega
   case p3=>exact L.size
   intro v9 w9 bq bC _ aY;rw[<- nh.aa]at bq;have iz:=L.trans aY;clear T O;exact Qu
  ·exact Lw
theorem Uw f v w(h:fF f v w)(E:f.length<=1000000) :
 Calls prog 258 #[v] w λe w'=>∃v',e=.returned v'/\fT w' w.heap.size v' f/\K w w':=by
 obtain⟨A,c,rfl,B⟩:=h
 go_enter func258,ntmps258
 go_wp2_with (at_builtin;refine iW rfl _ _ 53 rfl w.heap.size 73 _ 5 56 TF _ 0 [] rfl (kU _ _ _ _) _ A f.length c (f.flatMap fR) rfl B (IA f) ?p1 (aD _) ?_)
 case p1=>omega
 intro u t j _ _ C
 have y:=ae (show fT t w.heap.size u f from j)
 obtain⟨D,c1,rfl,-⟩:=(show fT t w.heap.size u f from j).slice
 clear j
 go_wp2
 go_ret
 exact⟨_,rfl,y.aa,C⟩
structure Jp(base lo:Nat)(l:List mc)(v:Value)(css:List (List Value))(j:Nat)(W:World):Prop where
 row:W.ownsRow base 246 3 v l.length css.flatten
 len:css.length=l.length
 a:∀i (h:i<l.length) (h':i<css.length),i<j->∀W',ag (λk=>k<lo∨v.ownBlock=some k) W W'->iI.rel l[i] css[i] W'
 b:∀i (h:i<l.length) (h':i<css.length),j<=i->∀W',ag (λk=>v.ownBlock=some k) W W'->iI.rel l[i] css[i] W'
theorem Jp.st{base lo l v css j W W'}(h:Jp base lo l v css j W)(k:K W W'):Jp base lo l v css j W' :=
 ⟨qv h.row k,h.len,λi B y t A u=>h.a i B y t A ((ag.aT k _).tr u),λi B y t A u=>h.b i B y t A ((ag.aT k _).tr u)⟩
theorem ac7 Y base l v w(h:aB Y base 246 iI l v w)(hlen:l.length<=1000000)(V:∀x∈l,x.f.length<=1000000) :
 Calls prog 175 #[v] w λe w'=>e=.returned v/\aB (λk=>k<w.heap.size) base 246 iI l v w'/\ag (λk=>v.ownBlock=some k) w w':=by
 have hblk:=h.blk
 obtain⟨css,G,h2,T⟩:=h
 have H:Jp base w.heap.size l v css 0 w:=⟨G,h2,λi h y C=>absurd C af,λi h y _ W' u=>(T W' (u.more λk hk=>.inr hk)).2 i h y⟩
 have HS:=ae V
 have U:ag (λk=>v.ownBlock=some k) w w:=ag.rf _ _
 obtain⟨A,c,hv⟩:∃A c,v=.slice A l.length c:=by
  rcases G.2 with ⟨rfl,h0⟩|⟨g,cap,cur,rfl,_⟩
  ·grind
  ·simp
 clear G h2 T V
 subst hv
 go_enter func175,ntmps175
 go_wp2_with fail
 go_loopw [3,6] (fun _ i W=>∃j:Nat,j<=l.length/\i=.int .i64 j/\(∃css,Jp base w.heap.size l (.slice A l.length c) css j W)/\ag (fun k=>(Value.slice A l.length c).ownBlock=some k) w W) (fun _ i _=>l.length-(intOf i).toNat)
 case atStart=>exact⟨0,af,rfl,⟨_,H⟩,U⟩
 case round =>
  clear H U;obtain⟨j,hj,rfl,⟨cs,t⟩,u⟩:=hrel;by_cases R:j<l.length
  ·have aP:(j:Int)<l.length:=af;have hcl:=t.len;have hrel:=t.b j R af (aD _) wr (ag.rf _ _);have Z:=HS.aa _ (bZ R);obtain⟨vf,S,M⟩:=hrel;obtain⟨g,hA⟩:∃g,A=some ⟨g,0,none⟩:=by
    rcases t.row.2 with ⟨_,h0⟩|⟨g,cap,cur,e,_⟩
    ·omega
    grind
   subst hA;have hgb:=(hblk g rfl).2;have hz:=u.size;obtain⟨q,z⟩:=FF t.row;have L:∀c∈cs,c.length=3:=by
    intro c hc;obtain⟨i,C,rfl⟩:=List.mem_iff_getElem.1 hc;by_cases hij:i<j
    ·exact iI.len (t.a i af C hij wr (ag.rf _ _))
    ·exact iI.len (t.b i af C af wr (ag.rf _ _))
   have Yp:=t.row.1;have O:cs[j]=YM l[j] vf:=S;have q2:wr.cell? ⟨g,j*3+2,none⟩=some vf:=by rw[q _ af,yx 3 cs L j 2 af ax,List.getElem?_eq_getElem (show j<cs.length by omega),O];rfl
   have H:=ae t;have HCJ:=ae O;have HL:=ae L;have MP:=ae Yp;have HEL:Hid (∀W',fF l[j].f vf W'->iI.rel l[j] (YM l[j] vf) W'):=ae λW' h=>⟨vf,rfl,h⟩
   have Bq:=M;obtain⟨Af,cf,rfl⟩:=cA Bq;have C1:=ae (Uw l[j].f _ wr M Z);clear Bq M t L Yp O q S Z;go_wp2_with fail
   apply bS C1.aa;rintro v2 D⟨N,I⟩;have F:=H.aa.st I;have hz2:=(FF F.row).2;have q3:D.cell? ⟨g,j*3+2,none⟩=some (.slice Af l[j].f.length cf):=by rw[I.cell (by simp;omega)];exact q2
   have xa:=ae N.rel;obtain⟨J,c2,rfl,-⟩:=N.slice;have hsz:=I.size;clear C1 q2 z N;go_upto_region 5 with (fail);have Q:=VR F.row (q:=j*3+2) (by rw[MP.aa];omega) (.slice J l[j].f.length c2);rw[O4 3 _ cs HL.aa j 2 af ax]at Q;have E:ag (λk=>(Value.slice (some ⟨g,0,none⟩) l.length c).ownBlock=some k) D (D.setCell ⟨g,j*3+2,none⟩ (.slice J l[j].f.length c2)):=ag.bM (X:=λk=>(Value.slice (some ⟨g,0,none⟩) l.length c).ownBlock=some k) rfl _ _;have u9:=(u.tr (ag.aT I _)).tr E;have hJ9:Jp base w.heap.size l (.slice (some ⟨g,0,none⟩) l.length c) (cs.set j ((cs[j]).set 2 (.slice J l[j].f.length c2))) (j+1) (D.setCell ⟨g,j*3+2,none⟩ (.slice J l[j].f.length c2)):=by
    refine⟨Q,by simp[hcl],λi h y C W' B=>?_,λi h y C W' B=>?_⟩
    ·by_cases e:i=j
     ·subst e;rw[List.getElem_set_self,HCJ.aa];refine⟨_,rfl,xa.aa W' ?_⟩;have u4:=(E.more λk hk=>.inr hk).tr B;exact u4.rY λk G _ _ h4=>by
       grind
     ·rw[List.getElem_set_ne af];exact F.a i h af af W' ((E.more λk hk=>.inr hk).tr B)
    ·rw[List.getElem_set_ne af];exact F.b i h af af W' (E.tr B)
   clear F hz2 q3 Q E;generalize D.setCell _ _=w3 at *;go_wp2;go_roundw
   case rel=>exact⟨j+1,af,bI,⟨_,hJ9⟩,u9⟩
   case measure=>simp[intOf];omega
  ·have aP:¬(j:Int)<l.length:=af;obtain rfl:j=l.length:=af;have HF:Hid (aB (λk=>k<w.heap.size) base 246 iI l (.slice A l.length c) wr):=ae ⟨cs,t.row,t.len,λW' B=>⟨t.len,λi h y=>t.a i h y h W' B⟩⟩;clear t;go_wp2;go_ret;exact⟨rfl,HF.aa,u⟩
theorem Uq es v w(h:aq cO es v w)(M:es.length<=1000000)(t:∀e∈es,e.length<=1000000) :
 Calls prog 169 #[v] w λe w'=>∃v',e=.returned v'/\aX w.heap.size w.heap.size 51 cO es v' w'/\K w w':=by
 obtain⟨D,d,rfl,B,H⟩:=h
 have A:=ae t
 have y:=K.rf w
 clear t
 go_enter func169,ntmps169
 go_wp2_with fail
 go_loopw [3,5,8] (fun o _ i W=>∃j:Nat,j<=es.length/\i=.int .i64 j/\aX w.heap.size w.heap.size 51 cO (es.take j) o W/\K w W) (fun _ _ i _=>es.length-(intOf i).toNat)
 case atStart=>exact⟨0,af,rfl,FX,y⟩
 case round =>
  clear y;obtain⟨j,I,rfl,hO,kr⟩:=hrel;by_cases hlt:j<es.length
  ·have F:(j:Int)<es.length:=af;obtain⟨G,E,cs,rfl,Q,hcl,⟨C,rfl,iN⟩,hcell⟩:=I7 B j hlt ax;have O:wr.cell? ⟨G,E+j,none⟩=some C:=VX;have HT:Hid (es.take (j+1)=es.take j++[es[j]]):=ae I0;have J:=A.aa _ (bZ hlt);exact ahr
  ·have F:¬(j:Int)<es.length:=af;rw[gQ af]at hO;have HO:=ae hO;obtain⟨L,N,rfl,-⟩:=hO.slice;exact Wx
theorem ar8 a w:Calls prog 265 #[.int .i64 a] w λe w'=>e=.returned (.bool false)/\K w w':=by have j:=K.rf w;go_enter func265,ntmps265;go_wp2;go_ret;exact⟨aj,j⟩
theorem ar9 a b w:Calls prog 179 #[.int .i64 a,.int .i64 b] w λe w'=>e=.returned (.int .i64 (iu a b))/\K w w':=by
 have C1:=ae λa W=>ar8 a W
 have HR:Hid (iu a b=if a<b then -1 else if b<a then 1 else 0):=ae rfl;generalize iu a b=R at *;go_enter func179,ntmps179;exact ahs
theorem asa a w:Calls prog 266 #[.int .u64 a] w λe w'=>e=.returned (.bool false)/\K w w':=by have j:=K.rf w;go_enter func266,ntmps266;go_wp2;go_ret;exact⟨aj,j⟩
theorem asb a b w:Calls prog 180 #[.int .u64 a,.int .u64 b] w λe w'=>e=.returned (.int .i64 (iu a b))/\K w w':=by
 have C1:=ae λa W=>asa a W
 have HR:Hid (iu a b=if a<b then -1 else if b<a then 1 else 0):=ae rfl;generalize iu a b=R at *;go_enter func180,ntmps180;exact ahs
def Hj(l:List Int):Int:=(l.find? λn=>decide (n≠0)).getD 0
theorem azo a b:Hj [a,b]=if a != 0 then a else b:=by
 grind [Hj]
theorem aoW{α:Type}(p:α->Bool)(l:List α)(j:Nat)(t:j<l.length)(h:(l.take j).find? p=none):(l.take (j+1)).find? p=if p l[j]then some l[j]else none:=by rw[gJ t,List.find?_append,h];by_cases hp:p l[j] <;> simp[hp]
theorem apW{α:Type}(p:α->Bool)(l:List α)(j:Nat)(x:α)(h:(l.take j).find? p=some x):l.find? p=some x:=by rw[<- List.take_append_drop j l,List.find?_append,h];rfl
theorem at8 l v w(h:aq cQ l v w)(L:l.length<=1000000):Calls prog 178 #[v] w λe w'=>e=.returned (.int .i64 (Hj l))/\K w w':=by
 obtain⟨A,c,rfl,E,-⟩:=h;have D:=K.rf w;have F:Hid (Hj l=(l.find? λn=>decide (n≠0)).getD 0):=ae rfl;generalize Hj l=R at *;go_enter func178,ntmps178;go_wp2_with fail
 go_loopw [5,8] (fun _ i W=>∃j:Nat,j<=l.length/\i=.int .i64 j/\Hid ((l.take j).find? (fun n=>decide (n≠0))=none)/\K w W) (fun _ i _=>l.length-(intOf i).toNat)
 case atStart=>exact⟨0,af,rfl,ae aj,D⟩
 case round =>
  clear D;obtain⟨j,J,rfl,y,kr⟩:=hrel;by_cases u:j<l.length
  ·have G:(j:Int)<l.length:=af;obtain⟨b,N,rfl,C⟩:=Go.Proofs.YtfndfpdhlbmboaaGreat.ints_at E af;have O:=C wr kr j u;have B:=ae (aoW (λn=>decide (n≠0)) l j u y.aa);have H:=ae (apW (λn=>decide (n≠0)) l (j+1));generalize l[j]=x at *;clear C E;by_cases t:x=0
   ·have I:Hid ((l.take (j+1)).find? (λn=>decide (n≠0))=none):=ae (by rw[B.aa,t];simp);subst t;go_wp2;go_roundw
    case rel=>exact⟨j+1,af,bI,I,kr⟩
    case measure=>simp[intOf];omega
   ·have HE:Hid (R=x):=ae (by rw[F.aa,H.aa x (by rw[B.aa];simp[t])];rfl);have M:(x != 0)=true:=by simpa using t
    exact Lu
  ·have G:¬(j:Int)<l.length:=af;have HE:Hid (R=0):=ae (by
    have:=y.aa;rw[gQ af]at this;rw[F.aa,this];rfl)
   exact Lu
theorem ac8 s x v vf M g w(h:sub s v w)(hg:ai w g 126 (aE x vf M)) :
 Calls prog 177 #[v,.pointer (some ⟨g,0,none⟩)] w λe w'=>e=.returned (.int .i64 (jA s x))/\K w w':=by
 have HR:Hid (jA s x=Hj [iu s.cl x.cl,iu (s.sub:Int) (x.sub:Int)]):=ae (by rw[azo];rfl)
 obtain⟨vs,rfl,I⟩:=h
 obtain⟨A,c,rfl⟩:=cA I
 have hb:=ai.new w 246 (mZ s (.slice A s.f.length c))
 have G:=hb.aU
 have F:=hg.cells
 generalize jA s x=R at *
 clear I hg
 go_enter func177,ntmps177
 go_upto_region 1 with (fail)
 generalize w.alloc _=O at *
 generalize w.heap.size=U at hb⊢
 have y:=hb.cells
 have u:=λW (k:K O W)=>F W (G.tr k)
 have J:=ae λW=>ar9 s.cl x.cl W
 have E:=ae λW=>asb (s.sub:Int) (x.sub:Int) W
 have H:=ae λv W (h:aq cQ [iu s.cl x.cl,iu (s.sub:Int) (x.sub:Int)] v W)=>at8 _ v W h aj
 generalize iu s.cl x.cl=t at *
 generalize iu (s.sub:Int) (x.sub:Int)=j at *
 generalize Hj [t,j]=N at *
 clear F hb
 have qs:=And.intro y u
 refine OV 13 [([],[]),([0],[(4,0)]),([],[]),([2],[(6,2)]),([1,3],[(5,1),(7,3)]),([],[]),([5],[(9,5)]),([],[]),([7],[(11,7)]),([6,8],[(10,6),(12,8)]),([4,9],[(8,4),(13,9)]),([10],[(14,10)]),([11],[(15,11)])] 16 ?_
 iterate 4 refine au.i ?_
 refine au.is (.int .i64 t) (λV W kW hp=>?_) ?_
 ·(try simp only[cF,aO,aR,bW,bY,aJ]at hp)
  simp[bR,aF,List.lookup,hp,cW,execOp,aG,aJ,y,u,go_sem];apply aM (J.aa W);intro D C;grind
 iterate 4 refine au.i ?_
 refine au.is (.int .i64 j) (λV W kW hp=>?_) ?_
 ·(try simp only[cF,aO,aR,bW,bY,aJ]at hp)
  simp[bR,aF,List.lookup,hp,cW,execOp,aG,aJ,y,u,go_sem];apply aM (E.aa W);intro D C;grind
 refine au.op (λv W=>aq cQ [t,j] v W) (λ_ _ _ h k=>bo h k) (λV W kW hp=>?_) ?_
 ·simp only[cF,aO,aR,bW,bY,aJ]at hp;simp[bR,aF,List.lookup,hp,cW,execOp,aG,go_sem];exact⟨⟨_,_,rfl,⟨[t,j].map AO,FG _ _,(Reads.new W [.int .i64 t,.int .i64 j] 3 1 2 rfl).more aj⟩,aj⟩,(K.rf W).al _⟩
 refine au.is (.int .i64 N) (λV W kW hp=>?_) ?_
 ·simp only[cF,aO,aR,bW,bY,aJ]at hp;obtain⟨B,-⟩:=hp;obtain⟨Q,T,S⟩:=av B;simp[bR,aF,List.lookup,B,cW,execOp,aG,aJ,go_sem];apply aM (H.aa _ W B);intro D C;grind
 refine au.i ?_
 clear qs
 intro V W kW hA
 simp only[aO,aR,cC,aJ,Nat.reduceAdd]at hA
 refine aH.h ?_
 have L:=G.tr kW
 clear hA y u J E H
 go_wp2
 go_ret
 exact⟨fW,L⟩
section
variable {α:Type} {S:ei α} {Y:Nat->Prop} {base:Nat} {e:TypeId} {l l2:List α} {v:Value} {w w':World} {P:Program}
theorem av7 t ty z size bytes(T:fY P t e z size bytes)(M:S.size=size)(E:aB Y base e S l v w) u(Q:jl (λk=>Y k∨v.ownBlock=some k) S l2 u w)
 (F:(l.length+l2.length)*(bytes+1)<=140737488355328) (H:base<=w.heap.size) :
 ∃v' w',(Builtin.append_ #[t,t] ty #[v,u]).run P w=.ok v' w'/\aB Y base e S (l++l2) v' w'/\w.grownBy w' v.ownBlock/\(v'.ownBlock=v.ownBlock∨v'.ownBlock=some w.heap.size)/\Below base w w':=by
 subst M
 obtain⟨A,c,D,rfl,R,L,U,hn,B⟩:=Q
 obtain⟨css,O,V,N⟩:=E
 obtain⟨v',w',J,W,j,G,I⟩:=FR w base t ty e z S.size bytes T v l.length css.flatten O w.heap.size A l2.length c D.flatten L (B w (ag.rf _ _)).ones F H
 refine⟨v',w',J,⟨css++D,aA,aA,λC u=>?_⟩,j,G,I⟩
 have y:=(ag.eU (X:=λk=>Y k∨v.ownBlock=some k) j (λg hg=>.inr hg)).gF u λk hk h=>by
  grind
 exact (N C y).append (B C y)
theorem Ux{ops rest o a Q}(J:o.guard=none) s x t
 (I:o.op=.call { callee:=.builtin .append,args:=#[s,x],argTypes:=#[t,t] })
 z size bytes (T:fY P t e z size bytes) (j:S.size=size) (H:a.eval s=v) (y:aB Y base e S l v w) u (F:a.eval x=u) (E:jl (λk=>Y k∨v.ownBlock=some k) S l2 u w)
 (C:(l.length+l2.length)*(bytes+1)<=140737488355328) (G:base<=w.heap.size)
 (h:∀v' w',aB Y base e S (l++l2) v' w'->w.grownBy w' v.ownBlock->(v'.ownBlock=v.ownBlock∨v'.ownBlock=some w.heap.size)->Below base w w'->wpList P ops Q rest (a.put o.dst v') w') :
 wpList P ops Q (o :: rest) a w:=by
 refine wpList_plain J λK D=>?_
 obtain⟨v',w',N,M,A,B,L⟩:=av7 (P:=P) t o.type z size bytes T j y u E C G
 unfold Oper.wp execOp
 simp only[I,resolve,invoke,builtin,Sem.run_bind,Sem.run_pure,Result.andThen_ok,List.map_toArray,jR,List.map_nil,H,F,N]
 exact D _ _ (h v' w' M A B L)
end
theorem aua P(w:World) T u v(j:v.oneCell'=true):(store ⟨w.heap.size,0,none⟩ v).run P (w.alloc (.cells #[u] T))=.ok () (w.alloc (.cells #[v] T)):=by have hb:=ai.new w T #[u];rw[run_store _ _ _ _ _ j];rw[hb.cell 0,hb.frozen,World.setCell_alloc_new];rfl
theorem aub s v w(h:sub s v w) :
 Calls prog 176 #[v] w λe w'=>e=.returned (.bool true)/\K w w':=by
 obtain⟨vs,rfl,j⟩:=h
 obtain⟨A,c,rfl⟩:=cA j
 have t:=K.new w (.cells (mZ s (.slice A s.f.length c)) 246)
 clear j
 go_enter func176,ntmps176
 go_wp2
 go_ret
 exact⟨rfl,t⟩
theorem adQ s x v vf t g gf w(h:sub s v w)(hg:ai w g 126 (aE x vf t))(u:ai w gf 254 #[.func (.func 177) #[] #[.pointer (some ⟨g,0,none⟩)]]) :
 Calls prog 181 #[v,.pointer (some ⟨gf,0,none⟩)] w λe w'=>e=.returned (.bool (decide (jA s x<0)))/\K w w':=by
 have j:=λo=>(K.rf w).al o
 have B:=ae λW (k:K w W)=>ac8 s x v vf t g W (ajH h k) (hg.ay k)
 obtain⟨vs,rfl,y⟩:=h
 obtain⟨A,c,rfl⟩:=cA y
 have hb:=ai.new w 246 (mZ s (.slice A s.f.length c))
 replace j:=j (.cells (mZ s (.slice A s.f.length c)) 246)
 have C:=u.ay j
 generalize jA s x=R at *
 clear y hg u
 go_enter func181,ntmps181
 go_upto_region 1 with (fail)
 generalize w.alloc _=E at *
 have G:=hb.cell
 have F:=C.cell
 go_wp2_with fail
 apply cG (B.aa E j) j
 intro I H D
 clear B G F hb C
 go_wp2
 go_ret
 exact⟨cV,D⟩
theorem adR s x v vf t g gf w(h:sub s v w)(hg:ai w g 126 (aE x vf t))(u:ai w gf 254 #[.func (.func 177) #[] #[.pointer (some ⟨g,0,none⟩)]]) :
 Calls prog 182 #[v,.pointer (some ⟨gf,0,none⟩)] w λe w'=>e=.returned (.bool (decide (0<jA s x)))/\K w w':=by
 have j:=λo=>(K.rf w).al o
 have B:=ae λW (k:K w W)=>ac8 s x v vf t g W (ajH h k) (hg.ay k)
 obtain⟨vs,rfl,y⟩:=h
 obtain⟨A,c,rfl⟩:=cA y
 have hb:=ai.new w 246 (mZ s (.slice A s.f.length c))
 replace j:=j (.cells (mZ s (.slice A s.f.length c)) 246)
 have C:=u.ay j
 generalize jA s x=R at *
 clear y hg u
 go_enter func182,ntmps182
 go_upto_region 1 with (fail)
 generalize w.alloc _=E at *
 have G:=hb.cell
 have F:=C.cell
 go_wp2_with fail
 apply cG (B.aa E j) j
 intro I H D
 clear B G F hb C
 go_wp2
 go_ret
 exact⟨cV,D⟩
theorem Jb{α S}{l:List α}{v w}(h:aq S l v w):jl (λk=>w.heap.size<=k) S l v w:=by
 obtain⟨A,c,rfl,⟨css,j,t⟩,B⟩:=h
 refine⟨A,c,css,rfl,B,t,j.1,λD C b G e hb=>?_,λW u=>j.st ⟨u.os,u.tape,u.output,u.size,λk hk=>u.block k hk af⟩⟩
 have y:0<css.flatten.length:=by rw[j.Gl];exact Nat.mul_pos (List.length_pos_iff.2 D) C
 obtain⟨I,H,F,E,-⟩:=t.2 y
 grind
theorem IJ{l:List mc}{q}(j:∀s∈l,s.f.length<=1000000):∀s∈l.filter q,s.f.length<=1000000:=λs h=>j s (List.mem_filter.1 h).1
theorem acA l x v vx w(h:aq iI l v w)(hx:dm x vx w)(hlen:l.length<=400000)(j:∀s∈l,s.f.length<=1000000)(hxs:x.f.length<=1000000) :
 Calls prog 105 #[v,vx] w λe w'=>∃v',e=.returned v'/\aB (λk=>k<w.heap.size) w.heap.size 246 iI (uv l x) v' w'/\K w w':=by
 have HR:Hid (uv l x=if x.kind=2 then l.filter (λs=>decide (jA s x<0))++[⟨x.cl,x.sub,x.f⟩]++l.filter (λs=>decide (0<jA s x))
  else if x.kind=3 then l.filter (λs=>decide (jA s x<0))++l.filter (λs=>decide (0<jA s x))else l):=ae rfl
 have M:=ae (Jb h)
 have X:=ae j
 obtain⟨vf,ve,rfl,hf,he⟩:=hx
 have HF:=ae λW (k:K w W)=>eO _ _ _ _ hf k
 obtain⟨Af,cf,rfl⟩:=cA hf
 obtain⟨Ae,ce,rfl⟩:=av he
 obtain⟨A,c,rfl⟩:=av h
 have hb:=ai.new w 126 (aE x (.slice Af x.f.length cf) (.slice Ae x.es.length ce))
 have k1:=hb.aU
 generalize uv l x=R at *
 clear h hf he j
 go_enter func105,ntmps105
 go_upto_region 1 with (fail)
 generalize w.alloc _=L at *
 have hz1:=k1.size
 generalize jM:w.heap.size=lo at hb M hz1⊢
 have lQ:=ae jM
 clear jM
 have oZ:=hz1
 have qb:=hb.cell
 by_cases hk:x.kind=2∨x.kind=3
 rotate_left
 ·have fy:Hid (R=l):=ae (by rw[HR.aa,if_neg λh=>hk (.inl h),if_neg λh=>hk (.inr h)]);have hk2:(x.kind != 2)=true:=aA;have jh:(x.kind != 3)=true:=aA;have I:=ae (FA (λk=>lo<=k) l _ (λ_=>true) 176 #[] L (M.aa.st k1) af (λ_ _=>cV) λW _ s _ u E=>aub s u W E);clear HR hk;go_wp2_with fail
  apply rM I.aa k1;intro v2 Y cH k2 D;rw[show l.filter (λ_=>true)=l by simp]at cH;have G:=ae (ac7 _ _ l v2 Y cH af X.aa);have bT:=cH.blk;obtain⟨A2,c2,rfl⟩:=cH.slice;clear I cH qb;go_wp2_with fail
  apply aM G.aa;rintro O⟨bH,u3⟩;have kF:=u3.k D λk hk=>by have:=(bT k hk).1;have:=lQ.aa;omega
  have HO:Hid (aB (λk=>k<lo) lo 246 iI R (.slice A2 l.length c2) O):=ae axs;clear G bH u3 bT;exact aht
 have Jl:(!(x.kind != 2&&x.kind != 3))=true:=aA
 have F:=ai.new L 254 #[.func (.func 177) #[] #[.pointer (some ⟨lo,0,none⟩)]]
 have aU:=F.aU
 have HK:=ae hk
 have HB:=ae hb
 have hst:=aua prog L 254 .nilFunc (.func (.func 177) #[] #[.pointer (some ⟨lo,0,none⟩)]) rfl
 have Q:=hb.ay aU
 have D:=k1.tr aU
 have hzz:=aU.size
 rcases hk with hk|hk
 ·have hk2:(x.kind != 2)=false:=D2;have jh:(x.kind==2)=true:=D2;clear Jl;go_upto_region 4 with (fail);generalize L.alloc _=Y at *;generalize yg:L.heap.size=gf at F⊢;clear yg hst;have I:=ae (FA (λk=>lo<=k) l _ (λs=>decide (jA s x<0)) 181 #[.pointer (some ⟨gf,0,none⟩)] Y (M.aa.st D) af (λ_ _=>cV) λW k s _ u E=>adQ s x u _ _ lo gf W E (Q.ay k) (F.ay k));clear qb;go_wp2_with fail
  apply bS I.aa;rintro v3 O⟨bH,t⟩;have U:=Q.ay t;have YN:=F.ay t;have lK:=D.tr t;have ix:=t.size;obtain⟨A3,c3,rfl⟩:=bH.slice;have cR:=mw (λs=>decide (jA s x<0)) l;have q3:=U.cell;clear I;have kA:=K.new O (.cells (mZ ⟨x.cl,x.sub,x.f⟩ (.slice Af x.f.length cf)) 246);have cI:=bH.st kA;have bT:=bH.blk;have hr:=eD.new (S:=iI) (e:=246) (x:=⟨x.cl,x.sub,x.f⟩) (v:=.agg (mZ ⟨x.cl,x.sub,x.f⟩ (.slice Af x.f.length cf))) (w:=O) (N:=λk=>lo<=k) (λW u=>⟨_,rfl,HF.aa W (u.k lK λk hk=>WQ)⟩) 0 (eV _);go_wp2_with (at_builtin;refine jN rfl _ _ 132 rfl _ 3 40 SQ rfl rfl cI _ rfl ⟨x.cl,x.sub,x.f⟩ ?p1 ?p2 ?p3 ?_)
  case p1=>exact hr.less λk hk=>by rcases hk with hk|hk;exact hk;have:=bT k hk;omega
  case p2=>omega
  case p3=>exact bn ix kA.size
  intro v5 w5 H pn Yv il;have Z:=(t.tr kA).trans il;have T:=D.tr Z;have Rv:=Q.ay Z;have Rw:=F.ay Z;have p5:=Z.size;obtain⟨y,B⟩:∃y,Hid (y=l.filter (λs=>decide (jA s x<0))++[(⟨x.cl,x.sub,x.f⟩:mc)]):=⟨_,ae rfl⟩;rw[<- B.aa]at H;obtain⟨A5,c5,rfl⟩:=H.slice;have G:=ae (FA (λk=>lo<=k) l _ (λs=>decide (0<jA s x)) 182 #[.pointer (some ⟨gf,0,none⟩)] w5 (M.aa.st T) af (λ_ _=>cV) λW k s _ u E=>adR s x u _ _ lo gf W E (Rv.ay k) (Rw.ay k));clear hr cI bH q3 U YN pn Yv il;go_upto_region 7 with (fail);go_wp2_with fail
  apply bS G.aa;rintro v6 w6⟨J,C⟩;have V:=H.st C;have aAe:=mw (λs=>decide (0<jA s x)) l;have akw:=H.blk;have Rx:=J.blk;have Jq:jl (λk=>False∨(Value.slice A5 y.length c5).ownBlock=some k) iI (l.filter (λs=>decide (0<jA s x))) v6 w6:=J.Hi (λk hk=>.inl ahu) λk hk hx=>by
   grind
  have j9:=V.less (Y':=λ_=>False) λ_ h=>h.elim
  have Fb:=T.tr C;have tM:=C.size;have xe:y.length<=400001:=by rw[B.aa,dx];simp;omega
  clear G H V J Rv Rw;obtain⟨A6,c6,rfl⟩:=Jq.slice;go_wp2_with (at_builtin;refine Ux rfl _ _ 132 rfl _ 3 40 SQ rfl rfl j9 _ rfl Jq ?p1 ?p2 ?_)
  case p1=>omega
  case p2=>omega
  intro v8 w8 iA Fc akx pE;have fy:Hid (R=y++l.filter (λs=>decide (0<jA s x))):=ae (by rw[HR.aa,B.aa,if_pos hk]);rw[<- fy.aa]at iA;have SR:=(Z.tr C).trans pE;have sZ:=D.tr SR;have NF:R.length<=1000000:=ahv;have Z5:∀s∈R,s.f.length<=1000000:=by
   rw[fy.aa,B.aa];intro s j;simp only[Eh,List.mem_singleton]at j;rcases j with (j|rfl)|j
   ·exact IJ X.aa s j
   ·exact hxs
   ·exact IJ X.aa s j
  exact ahw
 ·have hk2:(x.kind != 2)=true:=D2;have Sc:(x.kind != 3)=false:=D2;have jh:(x.kind==2)=false:=D2;clear Jl;go_upto_region 4 with (fail);generalize L.alloc _=Y at *;generalize yg:L.heap.size=gf at F⊢;clear yg hst;have I:=ae (FA (λk=>lo<=k) l _ (λs=>decide (jA s x<0)) 181 #[.pointer (some ⟨gf,0,none⟩)] Y (M.aa.st D) af (λ_ _=>cV) λW k s _ u E=>adQ s x u _ _ lo gf W E (Q.ay k) (F.ay k));clear qb;go_wp2_with fail
  apply bS I.aa;rintro v3 O⟨bH,t⟩;have U:=Q.ay t;have YN:=F.ay t;have lK:=D.tr t;have ix:=t.size;obtain⟨y,B⟩:∃y,Hid (y=l.filter (λs=>decide (jA s x<0))):=⟨_,ae rfl⟩;rw[<- B.aa]at bH;obtain⟨A3,c3,rfl⟩:=bH.slice;have cR:=mw (λs=>decide (jA s x<0)) l;have q3:=U.cell;clear I;have T:=lK;have akw:=bH.blk;have H:=bH;generalize A3=A5 at *;generalize c3=c5 at *;have p5:=ix;have G:=ae (FA (λk=>lo<=k) l _ (λs=>decide (0<jA s x)) 182 #[.pointer (some ⟨gf,0,none⟩)] O (M.aa.st T) af (λ_ _=>cV) λW k s _ u E=>adR s x u _ _ lo gf W E (U.ay k) (YN.ay k));go_upto_region 7 with (fail);clear q3;go_wp2_with fail
  apply bS G.aa;rintro v6 w6⟨J,C⟩;have V:=H.st C;have aAe:=mw (λs=>decide (0<jA s x)) l;have Rx:=J.blk;have Rv:=0;have Rw:=0;have Jq:jl (λk=>False∨(Value.slice A5 y.length c5).ownBlock=some k) iI (l.filter (λs=>decide (0<jA s x))) v6 w6:=J.Hi (λk hk=>.inl ahu) λk hk hx=>by
   grind
  have j9:=V.less (Y':=λ_=>False) λ_ h=>h.elim
  have Fb:=T.tr C;have tM:=C.size;have xe:y.length<=400001:=by rw[B.aa];omega
  clear G H V J Rv Rw;obtain⟨A6,c6,rfl⟩:=Jq.slice;go_wp2_with (at_builtin;refine Ux rfl _ _ 132 rfl _ 3 40 SQ rfl rfl j9 _ rfl Jq ?p1 ?p2 ?_)
  case p1=>omega
  case p2=>omega
  intro v8 w8 iA Fc akx pE;have fy:Hid (R=y++l.filter (λs=>decide (0<jA s x))):=ae (by rw[HR.aa,B.aa,if_neg (by omega),if_pos hk]);rw[<- fy.aa]at iA;have SR:=(t.tr C).trans pE;have sZ:=D.tr SR;have NF:R.length<=1000000:=ahv;have Z5:∀s∈R,s.f.length<=1000000:=by
   rw[fy.aa,B.aa];intro s j;rcases List.mem_append.1 j with j|j
   ·exact IJ X.aa s j
   ·exact IJ X.aa s j
  exact ahw
theorem apX a b w :
 Calls prog 350 #[.int .i64 a,.int .i64 b] w λe w'=>e=.returned (.int .i64 (iu a b))/\w=w':=by
 by_cases h1:a<b
 ·have HE:Hid (iu a b=-1):=ae (by simp[iu,h1]);exact WR
 ·by_cases h2:b<a
  ·have HE:Hid (iu a b=1):=ae Qv;exact WR
  ·have HE:Hid (iu a b=0):=ae Qv;exact WR
theorem apY a b w :
 Calls prog 351 #[.int .i64 a,.int .i64 b] w λe w'=>e=.returned (.int .i64 (iu a b))/\w=w':=by
 by_cases h1:a<b
 ·have HE:Hid (iu a b=-1):=ae (by simp[iu,h1]);exact WS
 ·by_cases h2:b<a
  ·have HE:Hid (iu a b=1):=ae Qv;exact WS
  ·have HE:Hid (iu a b=0):=ae Qv;exact WS
theorem axt a b:(!(Op.bytesLess a.toList b.toList||a.toList==b.toList))=mI b a:=by simp[afc]
theorem apZ a b w :
 Calls prog 352 #[.string a,.string b] w λe w'=>e=.returned (.int .i64 (yV a b))/\w=w':=by
 cases h1:mI a b
 ·have h1':Op.bytesLess a.toList b.toList=false:=h1;cases h2:mI b a
  ·have j:(!(a.toList==b.toList))=false:=ahx;have HE:Hid (yV a b=0):=ae (by simp[yV,h1,h2]);clear h1 h2;exact WT
  ·have j:(!(a.toList==b.toList))=true:=ahx;have HE:Hid (yV a b=1):=ae (by simp[yV,h1,h2]);clear h1 h2;exact WT
 ·have h1':Op.bytesLess a.toList b.toList=true:=h1;have HE:Hid (yV a b=-1):=ae (by simp[yV,h1]);clear h1;exact WT
theorem acB a b w :
 Calls prog 322 #[vv a.1 a.2.1 a.2.2,vv b.1 b.2.1 b.2.2] w λe w'=>e=.returned (.int .i64 (fS a b))/\Below w.heap.size w w':=by
 obtain⟨j,na,B⟩:=a
 obtain⟨u,y,A⟩:=b
 have hb2:Below w.heap.size w ((w.alloc (.cells #[.int .i64 j,.int .i64 na,.string B] 71)).alloc (.cells #[.int .i64 u,.int .i64 y,.string A] 71)):=((cT _ _).alloc (aD _) _).alloc aj _
 have H:=(ai.new w 71 #[.int .i64 j,.int .i64 na,.string B]).alloc (.cells #[.int .i64 u,.int .i64 y,.string A] 71)
 have I:=ai.new (w.alloc (.cells #[.int .i64 j,.int .i64 na,.string B] 71)) 71 #[.int .i64 u,.int .i64 y,.string A]
 have E:Hid (fS (j,na,B) (u,y,A)=if iu j u != 0 then iu j u else if iu na y != 0 then iu na y else yV B A):=ae rfl
 go_enter func322,ntmps322
 go_wp2
 go_step3
 go_wp2_with fail
 go_step3
 generalize N:((w.alloc (.cells #[.int .i64 j,.int .i64 na,.string B] 71)).alloc (.cells #[.int .i64 u,.int .i64 y,.string A] 71))=W at *
 clear N
 have S:=H.cell 0
 have Q:=H.cell 1
 have O:=H.cell 2
 have Y:=I.cell 0
 have X:=I.cell 1
 have U:=I.cell 2
 simp at S Q O Y X U
 generalize M:iu j u=D at *
 generalize L:iu na y=F at *
 generalize J:yV B A=G at *
 have V:=ae M
 have T:=ae L
 have R:=ae J
 clear M L J
 go_wp2_with fail
 go_loop [5,7] (fun t i=>∃k:Nat,k<=3/\i=.int .i64 k/\t=.int .i64 0/\Hid ((1<=k->D=0)/\(2<=k->F=0)/\(3<=k->G=0))) (fun _ i=>3-(intOf i).toNat)
 case atStart=>exact⟨0,af,rfl,rfl,ae ⟨af,af,af⟩⟩
 case round =>
  obtain⟨k,hk,rfl,rfl,hf⟩:=hrel;rcases (by omega:k=0∨k=1∨k=2∨k=3)with rfl|rfl|rfl|rfl
  ·go_wp2_with fail
   apply aM (apX j u W);rintro w' rfl;rw[V.aa];by_cases h0:D=0
   ·have C:(D != 0)=false:=Ly;have Z:=ae h0;obtain rfl:=h0;go_wp2;go_round
    case rel=>exact⟨1,af,rfl,rfl,ae (by refine⟨?_,?_,?_⟩ <;> first|trivial|(intro _;rfl)|(intro _;exact hf.aa.1 (by omega))|(intro _;exact hf.aa.2.1 (by omega))|omega)⟩
    case measure=>simp[intOf]
   ·have C:(D != 0)=true:=Ly;have HE:Hid (fS (j,na,B) (u,y,A)=D):=by have:=E.aa;rw[if_pos C]at this;exact ae this
    clear h0;exact Qw
  ·go_wp2_with fail
   apply aM (apY na y W);rintro w' rfl;rw[T.aa];by_cases h0:F=0
   ·obtain rfl:=h0;go_wp2;go_round
    case rel=>exact⟨2,af,rfl,rfl,ae (by refine⟨?_,?_,?_⟩ <;> first|trivial|(intro _;rfl)|(intro _;exact hf.aa.1 (by omega))|(intro _;exact hf.aa.2.1 (by omega))|omega)⟩
    case measure=>simp[intOf]
   ·have C:(F != 0)=true:=Ly;have HE:Hid (fS (j,na,B) (u,y,A)=F):=by have:=E.aa;rw[if_neg WU,if_pos C]at this;exact ae this
    clear h0;exact Qw
  ·have HE:Hid (fS (j,na,B) (u,y,A)=G):=by have:=E.aa;rw[if_neg WU,if_neg ahy]at this;exact ae this
   go_wp2_with fail
   apply aM (apZ B A W);rintro w' rfl;rw[R.aa];by_cases h0:G=0
   ·obtain rfl:=h0;go_wp2;go_round
    case rel=>exact⟨3,af,rfl,rfl,ae (by refine⟨?_,?_,?_⟩ <;> first|trivial|(intro _;rfl)|(intro _;exact hf.aa.1 (by omega))|(intro _;exact hf.aa.2.1 (by omega))|omega)⟩
    case measure=>simp[intOf]
   ·have C:(G != 0)=true:=Ly;clear h0;exact Qw
  ·have HE:Hid (fS (j,na,B) (u,y,A)=0):=by have:=E.aa;rw[if_neg WU,if_neg ahy,hf.aa.2.2 af]at this;exact ae this
   exact Qw
theorem aoB a b w :
 Calls prog 366 #[.string a,.string b] w λe w'=>e=.returned (.bool (preB a b))/\w=w':=by
 by_cases j:b.size<=a.size
 ·have t:(b.size:Int)<=a.size:=af;have HE:Hid (preB a b=((a.extract 0 b.size).toList==b.toList)):=ae (by simp[preB,j]);go_enter func366,ntmps366;exact DX
 ·have t:¬(b.size:Int)<=a.size:=af;have HE:Hid (preB a b=false):=ae (by simp[preB,j]);go_enter func366,ntmps366;exact DX
theorem aoH a b w :
 Calls prog 353 #[.string a,.string b] w λe w'=>e=.returned (.bool (preB a b))/\w=w':=by
 go_enter func353,ntmps353
 go_wp2_with fail
 apply aM (aoB a b w)
 rintro w' rfl
 go_wp2
 go_ret
 exact⟨rfl,rfl⟩
theorem Ur a b w :
 Calls prog 330 #[vv a.1 a.2.1 a.2.2,vv b.1 b.2.1 b.2.2] w λe w'=>e=.returned (.bool (kp a b))/\Below w.heap.size w w':=by
 obtain⟨y,na,t⟩:=a
 obtain⟨u,A,j⟩:=b
 have hb2:Below w.heap.size w ((w.alloc (.cells #[.int .i64 y,.int .i64 na,.string t] 71)).alloc (.cells #[.int .i64 u,.int .i64 A,.string j] 71)):=((cT _ _).alloc (aD _) _).alloc aj _
 cases h1:(y==2)
 ·have HE:Hid (kp (y,na,t) (u,A,j)=false):=ae (by simp[kp,h1]);go_enter func330,ntmps330;go_wp2;exact Qx
 ·cases h2:(u==2)
  ·have HE:Hid (kp (y,na,t) (u,A,j)=false):=ae (by simp[kp,h2]);go_enter func330,ntmps330;go_wp2;exact Qx
  ·have HE:Hid (kp (y,na,t) (u,A,j)=preB t j):=ae (by simp[kp,h1,h2]);go_enter func330,ntmps330;go_wp2_with fail
   apply aM (aoH t j _);rintro w' rfl;go_wp2;exact Qx
