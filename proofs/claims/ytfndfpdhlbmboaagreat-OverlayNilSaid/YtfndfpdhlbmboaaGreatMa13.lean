/-
  The walk of broker.Open (layer 20). Conditions: lists of at most a million; a disk of records that make a state.
-/
import Derived.Test.YtfndfpdhlbmboaaGreatMa12
import Derived.Deep.RegionLaw
import Derived.Lib.SlicesDelete
import Derived.Test.YtfndfpdhlbmboaaGreatMz
set_option maxRecDepth 100000
set_option linter.constructorNameAsVariable false
set_option maxHeartbeats 16000000
set_option linter.unusedVariables false
set_option linter.unusedSimpArgs false
namespace Go.Proofs.YtfndfpdhlbmboaaGreat
open Go Go.RowKit _root_.Go.Proofs.Tryz
theorem acA p n v g w(j:∃A c,v=.slice A p.length c)(hg:ah w g 23 #[v])(hn:p.length<=1000000) :
 Calls prog 136 #[.int .i64 n,.pointer (some ⟨g,0,none⟩)] w λe w'=>e=.returned (.bool (fT p n))/\K w w':=by
 obtain⟨A,c,rfl⟩:=j
 have q:=hg.cell
 have kk:=K.rf w
 have HC:Hid (fT p n=(decide (0<=n)&&decide (n<(p.length:Int)))):=ae rfl
 generalize fT p n=R at *
 go_enter func136,ntmps136
 by_cases h0:0<=n
 ·by_cases h1:n<(p.length:Int)
  ·have HR:Hid (R=true):=ae VL;exact xW
  ·have HR:Hid (R=false):=ae VL;exact xW
 ·have HR:Hid (R=false):=ae af4;exact xW
def uY(me:Int)(p ai:List Int)(d:oK)(s:dc):bj:=⟨me,p,ai,s,[],0,[],[],[],[],d⟩
theorem aDP p ai me y O C w(H:aq cR p y w)(h2:aq cR ai O w)(U:p.length<=1000000)(lD:ai.length<=1000000)(J:C=.pointer none∨∃gd,C=.pointer (some ⟨gd,0,none⟩))
 (u:gQ p=false∨fT p me=false∨C=.pointer none∨pW p ai=false) :
 Calls prog 86 #[.int .i64 me,y,O,C] w λe w'=>e=.returned (.tuple #[.pointer none,.int .i64 (if gQ p then 1 else 120)])/\K w w':=by
 have Y:Hid ((if gQ p then (1:Int)else 120)=if gQ p then (1:Int)else 120):=ae rfl
 have F:Hid (yd p=if gQ p then 0 else 120):=ae rfl
 have M:=ae λW (k:K w W)=>J9 p y W (bo H k) U
 have hb:=ah.new w 23 #[y]
 have k1:=hb.aS
 have hs:=aw H
 have N:=ae λn g W hg=>acA p n y g W hs hg U
 obtain⟨A1,c1,rfl⟩:=hs
 obtain⟨A2,c2,rfl,X,-⟩:=h2
 have t:=ae X
 generalize S:(if gQ p then (1:Int)else 120)=R at Y⊢
 have HR:=ae S
 generalize yd p=T at *
 clear H X S
 go_enter func86,ntmps86
 go_upto_region 1 with (fail)
 generalize w.alloc _=w1 at *
 generalize w.heap.size=g at hb⊢
 have q:=hb.cell
 go_wp2_with fail
 refine (M.aa w1 k1).mono ?_
 rintro e w2⟨rfl,E⟩
 replace hb:=hb.av E
 replace k1:=k1.tr E
 clear q E
 cases ht:gQ p
 ·have HQ:Hid (R=120):=ae agA;obtain rfl:T=120:=by rw[F.aa,ht];rfl
  clear ht u J;exact K1
 have HQ:Hid (R=1):=ae agA
 obtain rfl:T=0:=by rw[F.aa,ht];rfl
 rw[ht]at u
 replace u:=u.resolve_left ay
 have D:=ae u
 have A:=ae J
 clear ht u J F HR Y M
 go_wp2_with fail
 refine (N.aa _ g w2 hb).mono ?_
 rintro e w3⟨rfl,I⟩
 replace hb:=hb.av I
 replace k1:=k1.tr I
 clear I
 cases hm:fT p me
 ·clear D A t;exact K1
 rcases A.aa with rfl|⟨gd,rfl⟩
 ·clear D A t;exact K1
 have V:=ae (by
  have:=D.aa;rw[hm]at this;exact (this.resolve_left ay).resolve_left aj)
 clear D A hm
 by_cases h3:ai.length<1
 ·have h3':(ai.length:Int)<1:=af;clear t;exact K1
 have h3':¬(ai.length:Int)<1:=af
 by_cases h4:32<ai.length
 ·have h4':32<(ai.length:Int):=af;clear t;exact K1
 have h4':¬32<(ai.length:Int):=af
 obtain⟨b,off,rfl,hcell⟩:=ints_at t.aa af
 have vZ:=ae hcell
 have hh:Hid (¬ ∀k (h:k<ai.length),fT p ai[k]=true):=ae λh=>by
  have:=V.aa;rw[show pW p ai=true by
   simp only[pW,dE,decide_eq_true_eq,uO];exact⟨⟨af,af⟩,λx B=>by obtain⟨k,hk,rfl⟩:=List.mem_iff_getElem.1 B;exact h k hk⟩]at this
  cases this
 clear hcell t V
 go_wp2_with fail
 have Z:=K.rf w3
 go_loopw [13,43,44,45,46,47,48,49,50] (fun _ i _ _ _ _ _ _ _ W=>∃j:Nat,j<=ai.length/\i=.int .i64 j/\Hid (∀k (h:k<ai.length),k<j->fT p ai[k]=true)/\K w3 W) (fun _ i _ _ _ _ _ _ _ _=>ai.length-(intOf i).toNat)
 case atStart=>exact⟨0,af,rfl,ae λk _ h=>af,Z⟩
 case round =>
  clear Z;obtain⟨j,hj,rfl,L,kr⟩:=hrel;by_cases hlt:j<ai.length
  ·have aP:(j:Int)<ai.length:=af;have cj:=vZ.aa wr (k1.tr kr) j hlt;have G:Hid (fT p ai[j]=true->∀k (h:k<ai.length),k<j+1->fT p ai[k]=true):=ae λh k hk hkj=>by
    by_cases e:k=j
    ·subst e;exact h
    ·exact L.aa k hk af
   generalize ai[j]=x at *;have oL:=hb.av kr;go_wp2_with fail
   refine (N.aa _ g wr oL).mono ?_;rintro e w4⟨rfl,Q⟩;have kf:=k1.tr (kr.tr Q);cases B:fT p x
   ·clear G L;go_wp2;go_ret2;exact⟨ny,kf⟩
   have wg:=ae (G.aa B);have gK:=kr.tr Q;clear B G cj;go_wp2;go_roundw
   case rel=>exact⟨j+1,af,bJ,wg,gK⟩
   case measure=>simp[intOf];omega
  ·exact absurd (λk h=>L.aa k h af) hh.aa
theorem jQ.y4{gd vh j w0 w w'}(h:jQ gd vh j w w')(k:K w0 w)(_:∀b,kY gd vh b->b<w0.heap.size):jQ gd vh j w0 w':=⟨(ag.aT k _).tr h.up,λb hb=>(h.new b hb).imp id λa=>bn k.size a⟩
structure Yf(gd:Nat)(vh:Value)(B:bj)(w:World)(e:Ending)(w':World)(q:nr):Prop where
 ret:e=.returned (.tuple #[.pointer (some ⟨q.g,0,none⟩),.int .i64 0])
 dd:q.gd=gd
 br:bA (λk=>k<w.heap.size∨bw q k) q B w'
 up:ag (kY gd vh) w w'
 new:∀k,bw q k->kY gd vh k∨w.heap.size<=k
 g:w.heap.size<=q.g
def aj0(gd:Nat)(vh:Value)(d:oK)(w:World)(e:Ending)(w':World):Prop:=∃j,e=.returned (.tuple #[.pointer none,.int .i64 90])/\Jm gd j d w'/\jQ gd vh j w w'
def DC(gd:Nat)(vh:Value)(d:oK)(s:dc)(me:Int)(p ai:List Int)(w:World)(e:Ending)(w':World):Prop :=
 if iO (dF (cZ s))<=d.room then ∃q,Yf gd vh (uY me p ai ⟨dF (cZ s),d.room⟩ (cZ s)) w e w' q else aj0 gd vh d w e w'
theorem K2{M e base l v w Y}(h:aA Y base e cR l v w)(y:∀b,v.ownBlock=some b->¬M b):Fx M (λW=>aq cR l v W) w:=λW u=>by obtain⟨css,t,A,j⟩:=h;have hcs:=Ou (j w (ag.rf _ _));exact OI (iK t u y) agB
theorem Ka{P t kt j}(u:P.underlying t=some (.map kt j)) W:(Instr.makeMap t none).run P W=.ok (.map (some W.heap.size)) (W.alloc (.map #[] 0)):=by simp[Instr.makeMap,run_underlying u,go_sem]
theorem abZ gd vh d s p ai me Y v2 w(h:Jm gd vh d w)(hG:ic d s)(hA:FW (d.eT.map bM))(hl:s.life+1<18446744073709551616)(G:Fx (kY gd vh) (λW=>aq cR p Y W) w)(J:Fx (kY gd vh) (λW=>aq cR ai v2 W) w)
 (ht:gQ p=true) (hm:fT p me=true) (hh:pW p ai=true) :
 Calls prog 86 #[.int .i64 me,Y,v2,.pointer (some ⟨gd,0,none⟩)] w (DC gd vh d s me p ai w):=by
 have dA:p.length<=1000000:=by have:=sD ht;omega
 obtain⟨⟨lD,vQ⟩,hall⟩:(1<=ai.length/\ai.length<=32)/\∀x∈ai,fT p x=true:=by simpa only[pW,dE,decide_eq_true_eq,uO]using hh
 have Ey:Hid (∀e w' q,iO (dF (cZ s))<=d.room->Yf gd vh (uY me p ai ⟨dF (cZ s),d.room⟩ (cZ s)) w e w' q->DC gd vh d s me p ai w e w'):=ae λe w' q c h=>by unfold DC;rw[if_pos c];exact⟨q,h⟩
 have Jn:Hid (∀e w',¬iO (dF (cZ s))<=d.room->aj0 gd vh d w e w'->DC gd vh d s me p ai w e w'):=ae λe w' c h=>by unfold DC;rw[if_neg c];exact h
 have HB:Hid (∀W e w',Dz gd vh d s W e w'->if iO (dF (cZ s))<=d.room then ∃gl C vr vl vp va,Yb gd vh ⟨dF (cZ s),d.room⟩ (cZ s) W e w' gl C vr vl vp va else Yc gd vh d W e w'):=ae λW e w' h=>h
 have C3:=ae λW (k:K w W)=>aoR gd vh d s W (h.st k) hG hA hl
 generalize iO (dF (cZ s))=DL at *
 generalize hd':(⟨dF (cZ s),d.room⟩:oK)=d' at *
 generalize hs':cZ s=y at *
 generalize DC gd vh d s me p ai w=Post at *
 generalize hBP:Dz gd vh d s=BP at *
 have HDX:=ae h.lt
 have H1:=ae G
 have H2:=ae J
 clear hd' hs' hBP hG hl hh h
 have HTT:yd p=0:=by unfold yd;rw[if_pos ht]
 have C1:=ae λW (k:K w W)=>J9 p Y W (G.at k) dA
 rw[HTT]at C1
 have hb:=ah.new w 23 #[Y]
 have I:=hb.aS
 have hs:=aw G.now
 have C2:=ae λn g W hg=>acA p n Y g W hs hg dA
 obtain⟨A1,c1,rfl⟩:=hs
 obtain⟨A2,c2,rfl,eE,-⟩:=J.now
 have ua:=ae eE
 clear G J eE HTT ht
 go_enter func86,ntmps86
 go_upto_region 1 with (fail)
 generalize w.alloc _=w1 at *
 generalize hg0:w.heap.size=g at hb⊢
 have Sb:=ae hg0
 clear hg0
 have q:=hb.cell
 go_wp2_with fail
 refine (C1.aa w1 I).mono ?_
 rintro e w2⟨rfl,k2⟩
 replace hb:=hb.av k2
 replace I:=I.tr k2
 clear q k2 C1
 go_wp2_with fail
 refine (C2.aa _ g w2 hb).mono ?_
 rintro e w3⟨rfl,k3⟩
 replace hb:=hb.av k3
 replace I:=I.tr k3
 clear k3
 rw[hm]
 have h3':¬(ai.length:Int)<1:=af
 obtain⟨b,off,rfl,hcell⟩:=ints_at ua.aa af
 have vZ:=ae hcell
 have Q5:Hid (∀k (h:k<ai.length),fT p ai[k]=true):=ae λk hk=>hall _ (bS hk)
 clear hcell ua hall hm
 go_wp2_with fail
 have kk:=K.rf w3
 go_loopw [13,43,44,45,46,47,48,49,50] (fun _ i _ _ _ _ _ _ _ W=>∃j:Nat,j<=ai.length/\i=.int .i64 j/\K w3 W) (fun _ i _ _ _ _ _ _ _ _=>ai.length-(intOf i).toNat)
 case atStart=>exact⟨0,af,rfl,kk⟩
 case round =>
  clear kk;obtain⟨j,hj,rfl,kr⟩:=hrel;by_cases hlt:j<ai.length
  ·have aP:(j:Int)<ai.length:=af;have cj:=vZ.aa wr (I.tr kr) j hlt;have t:=Q5.aa j hlt;generalize ai[j]=x at *;have oL:=hb.av kr;go_wp2_with fail
   refine (C2.aa _ g wr oL).mono ?_;rintro e w4⟨rfl,k4⟩;rw[t];have gK:=kr.tr k4;clear t cj;go_wp2;go_roundw
   case rel=>exact⟨j+1,af,bJ,gK⟩
   case measure=>simp[intOf];omega
  ·have aP:¬(j:Int)<ai.length:=af;have kr:=I.tr kr;have hb:=hb.av (by assumption:K w3 wr);clear hlt hj I Q5 vZ C2;go_wp2_with fail
   refine (C3.aa wr kr).mono ?_;intro e M O;replace O:=HB.aa _ _ _ O;have U:=ae kr;have Zi:=ae hb;clear HB C3 hb kr;by_cases hfit:DL<=d.room
   ·rw[if_pos hfit]at O;obtain⟨gl,C,vr,vl,vp,va,⟨rfl,hlg,D,GA,iQ,gA⟩⟩:=O;have yz:=ae hfit;have gT:=Zi.aa.aX GA λt=>by have:=HDX.aa _ t;have:=Sb.aa;omega
    obtain⟨⟨Al,cl,rfl⟩,⟨Ap,cp,rfl⟩,Aa,ca,rfl⟩:(∃A c,vl=.slice A y.list.length c)/\(∃A c,vp=.slice A y.prom.length c)/\∃A c,va=.slice A y.ab.length c:=⟨aw D.now.1,aw D.now.2.1,aw D.now.2.2⟩;have B:=ah.new M 46 jq;have T:=B.cell;have z7:=B.frozen;have HLG:=ae hlg;have HST:=ae D;have Cr:=ae GA;have yA:=ae iQ;clear hlg D GA iQ gA hfit;go_upto_region 14 with (fail);clear T z7 B;have B:=ah.new M 46 (cE y (.slice Al y.list.length cl) (.slice Ap y.prom.length cp) (.slice Aa y.ab.length ca));have E:=B.aS;generalize M.alloc _=F at *;generalize M.heap.size=g7 at B⊢;have jm:=gT.av E;have q6:=jm.cells;have T:=B.cells;have Jp:Hid (∀W,K F W->aq cR p (.slice A1 p.length c1) W):=ae λW k=>H1.aa W ((ag.aT U.aa _).tr (Cr.aa.tr (ag.aT (E.tr k) _)))
    have ua:Hid (∀W,K F W->aq cR ai (.slice (some ⟨b,off,none⟩) ai.length c2) W):=ae λW k=>H2.aa W ((ag.aT U.aa _).tr (Cr.aa.tr (ag.aT (E.tr k) _)))
    clear gT jm B;go_upto_region 16 with (fail);have qs:=And.intro q6 T;refine abc 9 [7,8] [([],[]),([],[]),([1],[(62,1)]),([],[]),([3],[(64,3)]),([],[]),([],[]),([],[]),([],[]),([0,2,4,5,6,7,8],[(61,0),(63,2),(65,4),(66,5),(67,6),(68,7),(69,8)]),([9],[(70,9)]),([0,1,2,3,4,5,6,7,8,9,10],[(71,10)]),([0,1,2,3,4,5,6,7,8,9,10,11],[])] 72 ?_;iterate 2 refine au.i ?_
    refine au.ints F.heap.size p Co af (λ_ k=>k.size) (λV W kW hp=>?_) ?_
    ·exact agC
    refine au.i ?_;refine au.ints F.heap.size ai Co af (λ_ k=>k.size) (λV W kW hp=>?_) ?_
    ·exact agD
    iterate 2 refine au.i ?_
    refine au.op (λv W=>∃b,v=.map (some b)/\F.heap.size<=b/\ei encI W b []) (λ_ _ _ ⟨b,e,G,J⟩ k=>⟨b,e,G,J.st k⟩) (λV W kW hp=>?_) ?_
    ·simp[bP,execOp,aF,Ka underlying159,cN];exact VU
    refine au.op (λv W=>∃b,v=.map (some b)/\F.heap.size<=b/\ei lS W b []) (λ_ _ _ ⟨b,e,G,J⟩ k=>⟨b,e,G,J.st k⟩) (λV W kW hp=>?_) ?_
    ·simp[bP,execOp,aF,Ka underlying160,cN];exact VU
    clear qs;refine⟨λk hk=>?_,λV W kW hne hA=>?_⟩
    ·simp at hk;rcases hk with rfl|rfl
     ·exact VV
     ·exact VV
    simp only[aO,aQ,cz,aJ,Nat.reduceAdd]at hA;obtain⟨e0,e1,Z,e3,S,e5,e6,⟨H,e7,Ru,I9⟩,⟨L,e8,qv,Sc⟩,-⟩:=hA;obtain⟨A5,c5,e2⟩:=Z.slice;obtain⟨A6,c6,e4⟩:=S.slice;rw[e2]at Z;rw[e4]at S;have ayR:H≠L:=λe=>hne 7 aj 8 aj ay rfl rfl H VW (by rw[e8,e];rfl)
    apply aH.pure;rfl;simp[aE,List.lookup,ba,e0,e2,e4,e5,e6,e7,e8,execOp,aF,go_sem];rfl;refine aH.val (.pointer (some ⟨W.heap.size,0,none⟩)) (W.alloc (.cells #[.int .i64 me,.slice A5 p.length c5,.slice A6 ai.length c6,.pointer (some ⟨gl,0,none⟩),.int .u64 y.life,.slice Al y.list.length cl,.slice Ap y.prom.length cp,.slice Aa y.ab.length ca,.slice none 0 0,.int .u64 0,.map (some H),.slice none 0 0,.map (some L),.slice none 0 0] 162)) rfl agE ?_;apply aH.pure;rfl;simp[aE,List.lookup,ba,execOp,aF,go_sem];rfl;apply aH.pure;rfl;simp[aE,List.lookup,ba,execOp,aF,go_sem];rfl;refine aH.nil ?_;simp only[fX,Act.put,rJ,qM,qL,Nat.reduceAdd,ba,e0,e1,e2,e3,e4,e5,e6,e7,e8];have hbk:=ah.new W 162 #[.int .i64 me,.slice A5 p.length c5,.slice A6 ai.length c6,.pointer (some ⟨gl,0,none⟩),.int .u64 y.life,.slice Al y.list.length cl,.slice Ap y.prom.length cp,.slice Aa y.ab.length ca,.slice none 0 0,.int .u64 0,.map (some H),.slice none 0 0,.map (some L),.slice none 0 0];have R:=hbk.aS;generalize hWa:W.alloc _=Wa at *;generalize bB:W.heap.size=Q at *;have HQ:Hid (Post (.returned (.tuple #[.pointer (some ⟨Q,0,none⟩),.int .i64 0])) Wa):=ae (by
     have xg:=E.size;have p7:=Cr.aa.size;have MV:=U.aa.size;have k5:=E.tr (kW.tr R);have aj1:=HLG.aa.st k5;have azI:=HLG.aa.lt;have aD9:=I9.lt;have aEa:=Sc.lt;have aj2:=I9.st R;have aj3:=Sc.st R;refine Ey.aa _ _ ⟨Q,gl,gd,H,L,C,vr,.slice A5 p.length c5,.slice A6 ai.length c6,.slice Al y.list.length cl,.slice Ap y.prom.length cp,.slice Aa y.ab.length ca,.slice none 0 0,.slice none 0 0,.slice none 0 0,[]⟩ yz.aa ⟨rfl,rfl,⟨hbk,aj1,aj2,aj3,λW' u=>?_,λk hk=>.inr hk,λk hk=>?_,ayR⟩,?_,λk hk=>?_,?_⟩
     ·have ayS:∀k,k<M.heap.size->(k<w.heap.size∨k=Q∨k=H∨k=L∨jS gl gd C vr k)->(k<wr.heap.size∨jS gl gd C vr k):=λk hk t=>by
       rcases t with t|t|t|t|t
       ·exact .inl af
       ·omega
       ·omega
       ·omega
       ·exact .inr t
      have D:=(HST.aa.to (X:=λ_=>False) (N:=λk=>k<w.heap.size∨k=Q∨k=H∨k=L∨jS gl gd C vr k) (ag.aT k5 _) (λk hk=>hk.elim) ayS) W' u;have hno:∀(l:List Int) (A:Option Addr) (c:Nat),aA (λk=>k<F.heap.size) F.heap.size 3 cR l (.slice A l.length c) W->∀b,(Value.slice A l.length c).ownBlock=some b->¬(b<w.heap.size∨b=Q∨b=H∨b=L∨jS gl gd C vr b):=λl A c hO b hb t=>by
       have ox:=hO.blk b hb;obtain⟨css,hr,-,-⟩:=hO;obtain⟨cur,aj4⟩:=lI hr hb;rcases t with t|t|t|t|t
       ·omega
       ·omega
       ·subst t;exact I9.cells aj4
       ·subst t;exact Sc.cells aj4
       ·have:=azI b t;omega
      have hi1:=(K2 Z (hno p A5 c5 Z)) W' ((ag.aT R _).tr u);have hi2:=(K2 S (hno ai A6 c6 S)) W' ((ag.aT R _).tr u);exact⟨hi1,hi2,D.1,D.2.1,D.2.2,gh _ _,gh _ _,gh _ _,avs _⟩
     ·have h9:=hbk.lt;rcases hk with hk|hk|hk|hk|hk
      ·omega
      ·exact hk▸h9
      ·exact hk▸aj2.lt
      ·exact hk▸aj3.lt
      ·exact aj1.lt k hk
     ·exact (ag.aT U.aa _).tr (Cr.aa.tr (ag.aT k5 _))
     ·rcases hk with hk|hk|hk|hk
      ·right;show _<=k;simp only at hk;omega
      ·right;simp only at hk;omega
      ·right;simp only at hk;omega
      ·exact (yA.aa k hk).imp id λh=>af
     ·show w.heap.size<=Q;omega)
    clear I9 Sc hbk R Z S Ey Jn;go_wp2;exact HQ.aa
   ·rw[if_neg hfit]at O;obtain⟨C,rfl,hd,hu⟩:=O;have B:=ah.new M 46 jq;have T:=B.cell;have z7:=B.frozen;have E:=B.aS;have HZ:=ae (Jn.aa _ _ hfit ⟨C,rfl,hd.st E,(hu.y4 U.aa HDX.aa).k E⟩);clear hd hu hfit Ey Jn E;go_upto_region 14 with (fail);generalize M.alloc _=F at *;clear T z7 B;go_wp2;exact HZ.aa
structure bD(B:bj):Prop where
 tr:gQ B.par=true
 me:fT B.par B.me=true
 hm:pW B.par B.ai=true
 dk:ic B.dk B.st
 tx:jo B.aB
 calls:B.calls<4611686018427387904
 bQ:∀x∈B.bQ,dZ x.2=true/\pT x.2
 told:B.told.length<=1000000
 fe:B.refused.length<=1000000
 waits:∀x∈B.waits,bK x=true/\cD x
 yB:B.waits.length<=1000000
theorem Pg{p ai}(h:pW p ai=true):1<=ai.length/\ai.length<=32:=by
 grind [pW]
theorem ab0{M p B w}(h:bA M p B w)(y:bD B) c :
 Calls prog 102 #[.pointer (some ⟨p.g,0,none⟩),.int .i64 c] w λe w'=>e=.returned (.bool (BH B c))/\K w w':=by
 have u:Hid (BH B c=(decide (0<=c)&&decide (c<(B.ai.length:Int))&&decide (B.ai[c.toNat]?=some B.me))):=ae rfl
 have q:=h.q
 have E:=h.bI.now.ai
 have G:=Pg y.hm
 obtain⟨g,gl,gd,gr,gt,vd,vr,vp,vh,vl,vq,va,vt,vf,vw,kr⟩:=p
 simp only at q E
 clear h y
 obtain⟨A,c1,rfl,D,-⟩:=E
 obtain⟨b,H,rfl,C⟩:=ints_at D af
 generalize BH B c=R at *
 clear D
 go_enter func102,ntmps102
 go_upto_region 1 with (fail)
 rcases (show ¬0<=c∨(0<=c/\¬c<(B.ai.length:Int))∨(0<=c/\c<(B.ai.length:Int)) by omega)with j|⟨j,t⟩|⟨j,t⟩
 have HR:Hid (R=false):=ae (by rw[u.aa];simp[j])
 have qs:=And.intro q j
 rotate_left
 have HR:Hid (R=false):=ae (by rw[u.aa];simp[t])
 have qs:=And.intro q (And.intro j t)
 rotate_left
 obtain⟨n,rfl⟩:∃n:Nat,c=(n:Int):=⟨c.toNat,af⟩
 have hn:n<B.ai.length:=af
 have F:=λW k=>C W k n hn
 have HR:Hid (R=decide (B.ai[n]=B.me)):=ae (by rw[u.aa];simp[t,hn])
 generalize B.ai[n]=x at *
 have qs:=And.intro q (And.intro j (And.intro t F))
 all_goals
  clear u C
  refine dD 26 [([],[]),([0],[(5,0)]),([1],[(6,1)]),([2],[]),([2],[]),([2,4],[(9,4)]),([2,5],[(10,5)]),([2,6],[(11,6)]),([2,7],[(12,7)]),([2,3,8],[(8,3),(13,8)]),([2,9],[(7,2),(14,9)]),([10],[(15,10)]),([11],[]),([11,12],[(17,12)]),([11,13],[(18,13)]),([11,14],[(19,14)]),([11],[]),([11,15,16],[(20,15),(21,16)]),([11,17],[(22,17)]),([11],[]),([11,19],[(24,19)]),([11,20],[(25,20)]),([11,21],[(26,21)]),([11,18,22],[(23,18),(27,22)]),([11,23],[(16,11),(28,23)]),([24],[(29,24)])] 30 ?_
  iterate 26 refine au.i ?_
  clear qs
  intro V W kW hA
  simp only[aO,aQ,cz,aJ,Nat.reduceAdd]at hA
  refine aH.h ?_
  go_wp2
  go_ret
  exact⟨fE,kW⟩
theorem aji:(prog.info? 128).map (λi=>(i.zero,i.size,i.bytes))=some (some (.agg (gE vF (.slice none 0 0) (.slice none 0 0))),9,104):=by rfl
theorem Js:fK prog 123 128 (.agg (gE vF (.slice none 0 0) (.slice none 0 0))) 9 104:=⟨underlying123,aji,rfl,ay⟩
def D6(g:Nat)(x:aK)(v:Value)(W:World):Prop:=∃vf j,v=.agg (aD x vf j)/\Fx (λk=>k<g) (λW=>aU.rel x (aD x vf j).toList W) W
def MW(g:Nat)(t:eF)(v:Value)(W:World):Prop:=∃vf j,v=.agg (gE t vf j)/\Fx (λk=>k<g) (λW=>cW.rel t (gE t vf j).toList W) W
theorem agF{g x} v w w'(h:D6 g x v w)(k:K w w'):D6 g x v w':=h.imp λ_ h=>h.imp λ_ h=>⟨h.1,h.2.k k⟩
theorem ajj{g x} v w w'(h:MW g x v w)(k:K w w'):MW g x v w':=h.imp λ_ h=>h.imp λ_ h=>⟨h.1,h.2.k k⟩
theorem XB{B g}(hg:g<=B){x v w}(h:vG B x v w):D6 g x v w:=by obtain⟨vf,j,e,t⟩:=Bq h;exact⟨vf,j,e,t.less λk hk=>bz hk hg⟩
theorem D6.tx{g t vf j w}(h:Fx (λk=>k<g) (λW=>aU.rel t.e (aD t.e vf j).toList W) w):Fx (λk=>k<g) (λW=>cW.rel t (gE t vf j).toList W) w:=h.mono λW ⟨u,y,e,h1,h2⟩=>by exact PL
theorem Om l v w(h:aq cW l v w)(hs:∀t∈l,eB t.e)(hn:l.length<=1000000) :
 Calls prog 187 #[v] w λe w'=>∃v',e=.returned v'/\aV w.heap.size w.heap.size 128 cW l v' w'/\K w w':=by
 obtain⟨A,c,rfl,hl,hc⟩:=h
 have HS:=ae hs
 clear hs
 have U:=K.rf w
 go_enter func187,ntmps187
 go_wp2_with fail
 go_loopw [3,5,8] (fun o _ i W=>∃j:Nat,j<=l.length/\i=.int .i64 j/\aA (fun k=>k<w.heap.size) w.heap.size 128 cW (l.take j) o W/\K w W) (fun _ _ i _=>l.length-(intOf i).toNat)
 case atStart=>exact⟨0,af,rfl,by simpa using aA.nil _ _ _ _ _,U⟩
 case round =>
  clear U;obtain⟨j,hj,rfl,hO,kr⟩:=hrel;by_cases hlt:j<l.length
  ·have aP:(j:Int)<l.length:=af;obtain⟨M,Z,cs,rfl,hcl,R,I,d⟩:=ed hl j hlt ay;have HT:Hid (l.take (j+1)=l.take j++[l[j]]):=ae aj;have hst:=HS.aa _ (bS hlt);generalize l[j]=t at *;obtain⟨vf,ve,rfl,G,H⟩:=R w (K.rf w);obtain⟨y,B,rfl⟩:=b6 G;obtain⟨C,u,rfl⟩:=aw H;have HE:Hid (∀W,K w W->cV t.e (.agg (aD t.e (.slice y t.e.f.length B) (.slice C t.e.es.length u))) W):=ae λW k=>⟨_,_,rfl,eH _ _ _ _ G k,bo H k⟩
   have I:∀W,K w W->W.cell? ⟨M,Z+j*9,none⟩=some (.int .i64 t.e.kind):=I;have d:∀W,K w W->∀i,i<9->W.cell? ⟨M,Z+j*9+i,none⟩=(gE t (.slice y t.e.f.length B) (.slice C t.e.es.length u))[i]?:=λW k i hi=>(d W k i hi).trans Array.getElem?_toList
   have gV:(l.take j).length<=1000000:=aY;have kQ:=hO.blk;clear R hcl G H;have D:=ah.new wr 128 (gE t (.slice y t.e.f.length B) (.slice C t.e.es.length u));have Q:=D.aS;have oz:wr.heap.size<(wr.alloc (.cells (gE t (.slice y t.e.f.length B) (.slice C t.e.es.length u)) 128)).heap.size:=aj;go_upto_region 5 with (fail);have O:=hO.st Q;generalize wr.alloc _=E at *;have p7:=kr.size;generalize wr.heap.size=g5 at D oz p7 kQ⊢;generalize Value.slice y t.e.f.length B=vf at *;generalize Value.slice C t.e.es.length u=ve at *;have F:=kr.tr Q;clear d I;have qs:=D.cells;refine dD 8 [([],[]),([],[]),([1],[(13,1)]),([2],[(14,2)]),([],[]),([4],[(16,4)]),([3,5],[(15,3),(17,5)]),([6],[(18,6)]),([0,7],[(12,0),(19,7)]),([8],[(20,8)])] 23 ?_;iterate 3 refine au.i ?_
   refine au.c (D6 E.heap.size t.e) agF (λW k=>(J8 t.e _ W (HE.aa _ (F.tr k)) hst).mono λe w' ⟨v,e1,ho,k1⟩=>⟨v,e1,XB k.size ho,k1⟩) ?_;iterate 2 refine au.i ?_
   refine au.op (MW E.heap.size t) ajj (λV W kW hp=>?_) ?_
   ·exact VX
   refine au.row (S:=cW) (N:=λk=>k<E.heap.size) _ _ 9 104 Js rfl ay _ t rfl rfl (λV W kW hp=>?_) ?_
   ·exact agG
   clear qs;intro V W kW hA;simp only[aO,aQ,cz,aJ,Nat.reduceAdd]at hA;obtain⟨J,-,-,-,-,-,-,T,-⟩:=hA;have X:=O.st kW;refine aH.push (.tmp 12) (.tmp 19) 123 _ 9 104 Js rfl rfl rfl u3 (l.take j) t J X (T.less λk hk=>?_) af (bn F.size kW.size) ?_
   ·grind
   intro v9 w9 Y bB _ L;rw[<- HT.aa]at Y;have Zj:=(F.tr kW).trans (L.mono (aC _));have qs:=True.intro;have hA:=J;refine aH.p ?_;refine aH.e ?_;clear J T X O hO D L bB qs hA;generalize V 7=v7 at *;go_wp2;go_roundw
   case rel=>exact⟨j+1,af,bJ,Y,Zj⟩
   case measure=>simp[intOf];omega
  ·have aP:¬(j:Int)<l.length:=af;rw[fM af]at hO;have HO:=ae hO.toL;exact VY
theorem att{l a k}(hk:k<l.length)(h:oh a l[k]=true)(u:∀t∈l.take k,oh a t=false):ju l a=some k:=by
 unfold ju;rw[List.findIdx?_eq_some_iff_getElem];exact⟨hk,h,λj y=>by
  have:=u l[j] (List.mem_take_iff_getElem.2 ⟨j,af,rfl⟩);simp[this]⟩
theorem arA{l a}(j:∀t∈l,oh a t=false):ju l a=none:=by unfold ju;rw[List.findIdx?_eq_none_iff];exact j
theorem atu{l a k}(h:ju l a=some k):rK l a=(k:Int):=by unfold rK;rw[h]
theorem arB{l a}(h:ju l a=none):rK l a=-1:=by unfold rK;rw[h]
theorem avt a t:oh a t=(decide (t.e.br=a.1)&&decide (t.e.life=a.2.1)&&decide (t.e.bV=a.2.2)):=by obtain⟨j,u,y⟩:=a;unfold oh kL;rw[Bool.eq_iff_iff];simp[and_assoc]
theorem aqh t a v g w(h:MD t v w)(hg:ah w g 26 #[.int .i64 a.1,.int .u64 a.2.1,.int .u64 a.2.2]) :
 Calls prog 268 #[v,.pointer (some ⟨g,0,none⟩)] w λe w'=>e=.returned (.bool (oh a t))/\K w w':=by
 obtain⟨vf,H,rfl,j,B⟩:=h
 obtain⟨A,c,rfl⟩:=b6 j
 obtain⟨D,d,rfl⟩:=aw B
 clear j B
 have y:=ae (avt a t)
 have q:=hg.cells
 have E:=λo=>(K.rf w).al o
 obtain⟨G,F,C⟩:=a
 obtain⟨⟨k,b,l,s,cl,u,f,es⟩,asked⟩:=t
 simp only at q y⊢
 generalize oh (G,F,C) ⟨⟨k,b,l,s,cl,u,f,es⟩,asked⟩=R at *
 go_enter func268,ntmps268
 go_wp2
 all_goals
  go_ret
  refine⟨?_,(K.rf w).al _⟩
  rw[y.aa]
  show Ending.returned (.bool _)=Ending.returned (.bool _)
  clear q E
  first|(simp_all;done)|(simp_all;omega)|(congr 2;rw[Bool.eq_iff_iff];simp_all;omega)
theorem aoc A c l a g w(h:yI cW l A w)(Q:l.length<=1000000)(hg:ah w g 26 #[.int .i64 a.1,.int .u64 a.2.1,.int .u64 a.2.2]) :
 Calls prog 267 #[.slice A l.length c,.func (Fn.func 268) #[] #[.pointer (some ⟨g,0,none⟩)]] w λe w'=>e=.returned (.int .i64 (rK l a))/\K w w':=by
 have D:=K.rf w
 go_enter func267,ntmps267
 go_wp2_with fail
 go_loopw [5,8] (fun _ i wr=>∃k:Nat,k<=l.length/\i=.int .i64 k/\Hid (∀t∈l.take k,oh a t=false)/\K w wr) (fun _ i _=>l.length-(intOf i).toNat)
 case atStart=>exact⟨0,af,rfl,ae aj,D⟩
 case round =>
  clear D;obtain⟨k,hk,rfl,hall,kr⟩:=hrel;by_cases hlt:k<l.length
  ·have I:(k:Int)<l.length:=af;obtain⟨y,C,cs,rfl,H,B,u,d⟩:=ed h k hlt ay;have L:Hid (oh a l[k]=false->∀t∈l.take (k+1),oh a t=false):=agH;have O:=ae λh=>atu (att hlt h hall.aa)
   generalize l[k]=t at *;obtain⟨vf,E,rfl,F,G⟩:=B wr kr;have u:∀W,K w W->W.cell? ⟨y,C+k*9,none⟩=some (.int .i64 t.e.kind):=u;have d:∀W,K w W->∀i,i<9->W.cell? ⟨y,C+k*9+i,none⟩=(gE t vf E)[i]?:=λW j N=>λM=>(d W j N M).trans Array.getElem?_toList
   clear B H;go_wp2_with fail
   refine (aqh t a _ g wr ⟨vf,E,rfl,F,G⟩ (hg.av kr)).mono ?_;rintro e R⟨rfl,J⟩;have kW:=kr.tr J;clear d u F G;cases hx:oh a t
   ·have nJ:=ae (L.aa hx);exact Ih
   ·have HE:=ae (O.aa hx);exact VZ
  ·have I:¬(k:Int)<l.length:=af;have HE:=ae (by
    have:=hall.aa;rw[fM af]at this;exact arB (arA this))
   exact K3
theorem OO l a v w(h:aq cW l v w)(y:l.length<=1000000) :
 Calls prog 183 #[v,bU a] w λe w'=>e=.returned (.int .i64 (rK l a))/\K w w':=by
 obtain⟨A,c,rfl,C,-⟩:=h
 have j:=ah.new w 26 #[.int .i64 a.1,.int .u64 a.2.1,.int .u64 a.2.2]
 have t:=j.aS
 have u:=Xx C t
 go_enter func183,ntmps183
 go_wp2_with fail
 generalize w.alloc _=D at *
 refine (aoc A c l a _ D u y j).mono ?_
 rintro e E⟨rfl,B⟩
 go_wp2
 go_ret
 exact⟨rfl,t.tr B⟩
theorem avu(l:List eF)(a:aR):DP l a=match ju l a with|none=>-1|some k=>if (l[k]?.map eF.asked)=some true then -1 else (k:Int):=by
 unfold DP uP
 cases ju l a with
 | none=>rfl
 | some k =>
  by_cases h:(l[k]?.map eF.asked)=some true
  ·simp[h]
  ·simp[h]
theorem acB l a v w(h:aq cW l v w)(S:l.length<=1000000) :
 Calls prog 188 #[v,bU a] w λe w'=>e=.returned (.int .i64 (DP l a))/\K w w':=by
 have E:=h
 obtain⟨A,c,rfl,T,-⟩:=h
 have N:=ah.new w 26 #[.int .i64 a.1,.int .u64 a.2.1,.int .u64 a.2.2]
 have J:=N.aS
 have u:=ae (avu l a)
 have L:=ae λW (kW:K w W)=>OO l a _ W (bo E kW) S
 have y:Hid (rK l a=match ju l a with|none=>-1|some k=>(k:Int)):=ae (by unfold rK;cases ju l a <;> rfl)
 have H:=ae λk h=>@Kk l a k h
 generalize DP l a=R at *
 generalize rK l a=I at *
 clear E
 go_enter func188,ntmps188
 go_wp2_with fail
 generalize w.alloc _=X at *
 refine (L.aa X J).mono ?_
 rintro e C⟨rfl,M⟩
 have kW:=J.tr M
 cases hs:ju l a with
 | none =>
  obtain rfl:I=-1:=by rw[y.aa,hs]
  obtain rfl:R=-1:=by rw[u.aa,hs]
  go_wp2;go_ret;exact⟨rfl,kW⟩
 | some k =>
  obtain rfl:I=(k:Int):=by rw[y.aa,hs]
  obtain⟨t,j,-,-⟩:=H.aa k hs;obtain⟨hk,F⟩:=List.getElem?_eq_some_iff.1 j;have G:Hid (R=if t.asked=true then -1 else (k:Int)):=ae (by rw[u.aa,hs];simp[j]);obtain⟨O,V,cs,rfl,Q,B,U,d⟩:=ed T k hk ay;rw[F]at B;obtain⟨vf,ve,rfl,-,-⟩:=B C kW;have D:C.cell? ⟨O,V+k*9+8,none⟩=some (.bool t.asked):=d C kW 8 ay;have Y:(k:Int)<l.length:=af;have Z:(0:Int)<=(k:Int):=af;clear d U B Q j F hs u y H;cases ha:t.asked
  ·obtain rfl:R=(k:Int):=by rw[G.aa,ha];rfl
   rw[ha]at D;go_wp2;go_ret;exact⟨rfl,kW⟩
  ·obtain rfl:R=-1:=by rw[G.aa,ha];rfl
   rw[ha]at D;go_wp2;go_ret;exact⟨rfl,kW⟩
theorem adk x v w(h:cV x v w)(C:cD x) :
 Calls prog 227 #[v] w λe w'=>e=.returned (.bool (rN x))/\K w w':=by
 have u:=ae λW (kW:K w W)=>TA x v W (Lj h kW) C
 have HB:Hid (rN x=decide (3000<((pF x).length:Int))):=ae (by
  unfold rN ajz pF;rw[decide_eq_decide];omega)
 obtain⟨vf,B,rfl,-,-⟩:=h
 have j:=K.new w (.cells (aD x vf B) 126)
 go_enter func227,ntmps227
 go_wp2_with fail
 generalize w.alloc _=A at *
 refine (u.aa A j).mono ?_
 rintro e F⟨D,rfl,t,y⟩
 obtain⟨E,c2,rfl,-⟩:=eK t
 clear t
 go_wp2
 go_ret
 exact⟨Fs,j.tr y⟩
theorem adl l t v u w(h:aq cW l v w)(ht:MD t u w)(hfit:cD t.e)(hs:eB t.e)(hl:∀s∈l,eB s.e)(hlen:l.length<=1000000) :
 Calls prog 166 #[v,u] w λe w'=>∃v',e=.returned (.tuple #[v',.int .i64 (vD l t).2])/\aV w.heap.size w.heap.size 128 cW (vD l t).1 v' w'/\K w w':=by
 obtain⟨vf,ve,rfl,O,Q⟩:=ht
 obtain⟨H,L,rfl⟩:=b6 O
 obtain⟨T,G,rfl⟩:=aw Q
 have M:Hid (∀W,K w W->cV t.e (.agg (aD t.e (.slice H t.e.f.length L) (.slice T t.e.es.length G))) W):=ae λW k=>⟨_,_,rfl,eH _ _ _ _ O k,bo Q k⟩
 have HV:=ae (aja h)
 obtain⟨A,c,rfl⟩:=aw h
 clear O Q h
 have D:Hid (vD l t=if rK l (kL t.e)<0 then (if bK t.e=false then (l,110)else if 8<=l.length then (l,171)else if rN t.e then (l,172)else (l++[t],0))else (l,170)):=ae (by
  unfold vD rK
  cases ju l (kL t.e)with
  | none=>simp
  | some k =>
   simp only[Option.isSome_some,if_true];rw[if_neg af])
 generalize vD l t=R at *
 have HS:=ae hs
 have HL:=ae hl
 have HF:=ae hfit
 clear hs hl hfit
 have y:=ah.new w 128 (gE t (.slice H t.e.f.length L) (.slice T t.e.es.length G))
 have B:=y.aS
 go_enter func166,ntmps166
 go_wp2
 go_step3
 go_wp2_with fail
 generalize w.alloc _=w1 at *
 generalize w.heap.size=g3 at y⊢
 generalize Value.slice H t.e.f.length L=vf at *
 generalize Value.slice T t.e.es.length G=ve at *
 have qx:=y.cells
 refine (Om l _ w1 (HV.aa _ B) HL.aa hlen).mono ?_
 rintro e w2⟨u6,rfl,hO,Y⟩
 have bC:=B.tr Y
 go_wp2_with fail
 go_step3
 go_wp2_with fail
 refine (OO l (kL t.e) _ w2 (HV.aa _ bC) hlen).mono ?_
 rintro e w3⟨rfl,J⟩
 have mI:=B.size
 replace hO:=hO.st J
 replace bC:=bC.tr J
 have j:=Y.tr J
 have HW:=ae (aV.low (aV.floor hO mI) mI)
 generalize hI:rK l (kL t.e)=I at D⊢
 clear hI
 by_cases X:I<0
 rotate_left
 ·have HQ:Hid (R=(l,170)):=ae (by rw[D.aa,if_neg X]);clear hO;exact Ij
 have fU:Hid (R=if bK t.e=false then (l,110)else if 8<=l.length then (l,171)else if rN t.e then (l,172)else (l++[t],0)):=ae (by rw[D.aa,if_pos X])
 clear D
 go_wp2_with fail
 refine (J7 t.e _ w3 (M.aa _ bC)).mono ?_
 rintro e w4⟨rfl,F⟩
 replace hO:=hO.st F
 replace bC:=bC.tr F
 replace j:=j.tr F
 cases hok:bK t.e
 ·have HQ:Hid (R=(l,110)):=ae (by rw[fU.aa,if_pos hok]);have HW:=ae (aV.low (aV.floor hO mI) mI);rw[Fc hok];clear hO;exact Ij
 rw[Kj hok]
 by_cases h8:8<=l.length
 ·have xe:(8:Int)<=(l.length:Int):=af;have HQ:Hid (R=(l,171)):=ae (by rw[fU.aa,if_neg (by rw[hok];decide),if_pos h8]);exact agI
 have xe:¬(8:Int)<=(l.length:Int):=af
 go_wp2_with fail
 refine (adk t.e _ w4 (M.aa _ bC) HF.aa).mono ?_
 rintro e C⟨rfl,E⟩
 replace hO:=hO.st E
 replace bC:=bC.tr E
 replace j:=j.tr E
 cases hb:rN t.e
 rotate_left
 ·have HQ:Hid (R=(l,172)):=ae agJ;exact agI
 have HQ:Hid (R=(l++[t],0)):=ae agJ
 go_upto_region 10 with (fail)
 have dR:=y.av j
 have kQ:=hO.blk
 have p7:=j.size
 have dQ:=bn p7 (aC C.heap.size)
 have qs:=dR.cells
 have hOY:=hO.sR
 refine dD 8 [([],[]),([],[]),([1],[(29,1)]),([2],[(30,2)]),([],[]),([4],[(32,4)]),([3,5],[(31,3),(33,5)]),([6],[(34,6)]),([0,7],[(28,0),(35,7)]),([8],[(36,8)])] 39 ?_
 iterate 3 refine au.i ?_
 refine au.c (D6 C.heap.size t.e) agF (λW k=>(J8 t.e _ W (M.aa _ (bC.tr k)) HS.aa).mono λe w' ⟨v,e1,ho,B⟩=>⟨v,e1,XB k.size ho,B⟩) ?_
 iterate 2 refine au.i ?_
 refine au.op (MW C.heap.size t) ajj (λV W kW hp=>?_) ?_
 ·exact VX
 refine au.row (S:=cW) (N:=λk=>k<C.heap.size) _ _ 9 104 Js rfl ay _ t rfl rfl (λV W kW hp=>?_) ?_
 ·exact agG
 clear qs
 intro V W kW hA
 simp only[aO,aQ,cz,aJ,Nat.reduceAdd]at hA
 obtain⟨U,-,-,-,-,-,-,f7,-⟩:=hA
 refine aH.push (.tmp 28) (.tmp 35) 123 _ 9 104 Js rfl rfl rfl u6 l t U (hOY.st kW) (f7.less λk hk=>?_) af (bn dQ kW.size) ?_
 ·rcases hk with hk|hk
  ·omega
  ·have:=kQ k hk;omega
 intro v9 w9 bq bB _ Z
 have Zj:=(bC.tr kW).trans (Z.mono mI)
 have HW:=ae (aV.low (aV.floor bq.toL mI) mI)
 have qs:=True.intro
 have hA:=U
 refine aH.p ?_
 refine aH.e ?_
 clear U f7 hOY hO y qx dR Z bB qs hA bq
 generalize V 7=v7 at *
 go_wp2
 try rw[gq]
 go_ret2
 exact⟨_,ny,Fz,Zj⟩
theorem agK t(j:t.e.f=[])(u:t.e.es=[]) w:MD t (.agg (gE t (.slice none 0 0) (.slice none 0 0))) w :=
 ⟨_,_,rfl,by rw[j];exact⟨none,0,rfl,Reads.nil _ _ _ _⟩,by rw[u];exact gh _ _⟩
theorem avv{a c}(j:eu a)(t:cJ c):cD (vE a c):=⟨by simp[vE,cJ],j.1,t,j.2.1,j.2.2,Ik,Ik,Ik⟩
theorem aqi l a c v w(h:aq cW l v w)(E:eu a)(y:cJ c)(F:∀s∈l,eB s.e)(B:l.length<=1000000) :
 Calls prog 101 #[v,bU a,.int .i64 c] w λe w'=>∃v',e=.returned (.tuple #[v',.int .i64 (xZ l a c).2])/\aV w.heap.size w.heap.size 128 cW (xZ l a c).1 v' w'/\K w w':=by
 have J:=ae (aja h)
 have u:=ae λW (kW:K w W)=>adl l ⟨vE a c,false⟩ v _ W (bo h kW) (agK ⟨vE a c,false⟩ rfl rfl W) (avv E y) (by simp[eB,vE]) F B
 obtain⟨A,d,rfl⟩:=aw h
 clear h
 have j:=K.new w (.cells #[.int .i64 a.1,.int .u64 a.2.1,.int .u64 a.2.2] 26)
 unfold xZ
 generalize vD l ⟨vE a c,false⟩=R at *
 go_enter func101,ntmps101
 go_wp2_with fail
 generalize w.alloc _=G at *
 refine (u.aa G j).mono ?_
 rintro e I⟨H,rfl,t,C⟩
 have D:=ae (aV.low (aV.floor t j.size) j.size)
 clear t
 go_wp2
 go_ret2
 exact⟨_,rfl,D.aa,j.tr C⟩
theorem atv l x v u w(h:aq cW l v w)(H:cV x u w)(M:cD x)(I:eB x)(L:∀s∈l,eB s.e)(E:l.length<=1000000) :
 Calls prog 132 #[v,u] w λe w'=>∃v',e=.returned (.tuple #[v',.int .i64 (wZ l x).2])/\aV w.heap.size w.heap.size 128 cW (wZ l x).1 v' w'/\K w w':=by
 obtain⟨vf,t,rfl,y,C⟩:=H
 have D:=ae λW (kW:K w W)=>adl l ⟨x,true⟩ v (.agg (gE ⟨x,true⟩ vf t)) W (bo h kW) ⟨vf,t,rfl,eH _ _ _ _ y kW,bo C kW⟩ M I L E
 obtain⟨A,d,rfl⟩:=aw h
 clear h y C
 have j:=K.new w (.cells (aD x vf t) 126)
 unfold wZ
 generalize vD l ⟨x,true⟩=R at *
 go_enter func132,ntmps132
 go_wp2_with fail
 generalize w.alloc _=J at *
 refine (D.aa J j).mono ?_
 rintro e O⟨N,rfl,B,F⟩
 have G:=ae (aV.low (aV.floor B j.size) j.size)
 clear B
 go_wp2
 go_ret2
 exact⟨_,rfl,G.aa,j.tr F⟩
theorem Tv{α:Type} n:∀(css:List (List α)),(∀cs∈css,cs.length=n)->∀k,(css.take k).flatten=css.flatten.take (k*n)
 | [],_,k=>aj
 | c :: css,h,0=>aj
 | c :: css,h,k+1=>by have hc:=h c aj;have ih:=Tv n css (λx hx=>h x Dn) k;exact afO
theorem Tw{α:Type} n:∀(css:List (List α)),(∀cs∈css,cs.length=n)->∀k,(css.drop k).flatten=css.flatten.drop (k*n)
 | [],_,k=>aj
 | c :: css,h,0=>aj
 | c :: css,h,k+1=>by have hc:=h c aj;have j:=Tw n css (λx hx=>h x Dn) k;rw[List.drop_succ_cons,List.flatten_cons,j,List.drop_append,show List.drop ((k+1)*n) c=[]from List.drop_eq_nil_of_le Po,hc,show (k+1)*n-n=k*n by rw[Nat.succ_mul];omega,aO]
theorem ah.ajk:∀(vs:List Value) {w:World} {g o:Nat} {e:TypeId} {cur:Array Value},ah w g e cur->ah (w.setCells g o vs) g e (Lib.lay cur o vs)
 | [],_,_,_,_,_,h=>h
 | v :: r,_,_,o,_,_,h=>ah.ajk r (o:=o+1) (h.aM o v)
theorem ab1 g:∀(vs:List Value) (o:Nat) (w:World),w.grownBy (w.setCells g o vs) (some g)
 | [],_,w=>⟨rfl,rfl,rfl,aC _,λ_ _ _=>rfl⟩
 | v :: r,o,w=>by have h:=ab1 g r (o+1) (w.setCell ⟨g,o,none⟩ v);exact⟨h.os,h.tape,h.output,by have j:=h.size;rw[show (w.setCell ⟨g,o,none⟩ v).heap.size=w.heap.size by simp]at j;exact j,λk hk t=>(h.block k sE t).trans (Below.heap_setCell w ⟨g,o,none⟩ v k (by rintro rfl;exact t rfl))⟩
theorem aoS{P w t e z cur}(D:P.underlying t=some (.slice e))(B:∀w,(zeroValue e).run P w=.ok z w) g o(hb:ah w g e cur)(E:o+z.cells.size<=cur.size)(y:∀u∈z.cells.toList,u.oneCell'=true) :
 ∃w',(∀ty c,(Builtin.clear_ #[t] ty #[.slice (some ⟨g,o,none⟩) 1 c]).run P w=.ok (.tuple #[]) w')/\ah w' g e (cur.toList.take o++z.cells.toList++cur.toList.drop (o+z.cells.size)).toArray/\w.grownBy w' (some g):=by
 have j:=run_storeCells_at P g o e z.cells.toList 0 cur w hb af y
 simp only[Nat.add_zero,Array.length_toList]at j
 have C:(Builtin.zeroCells z.cells 1).toList=z.cells.toList:=by
  simp[Builtin.zeroCells];apply List.ext_getElem
  ·simp
  ·grind [Nat.mod_eq_of_lt]
 refine⟨_,λty c=>?_,setRow_heap w g cur _ e _ hb,⟨rfl,rfl,rfl,aj,λk hk A=>setRow_other w g k _ (λe=>A tB)⟩⟩
 simp[Builtin.clear_,run_underlying D,B,C,j]
theorem ax4 W:(zeroValue 128).run prog W=.ok (.agg (gE vF (.slice none 0 0) (.slice none 0 0))) W:=by rfl
theorem apm l(base k j:Nat)(U:j=k+1) v w(h:aV base base 128 cW l v w)(hk:k<l.length)(hlen:l.length<=1000000) :
 Calls prog 271 #[v,.int .i64 k,.int .i64 j] w λe w'=>∃v',e=.returned v'/\aV base base 128 cW (l.eraseIdx k) v' w'/\w.grownBy w' v.ownBlock:=by
 obtain⟨css,I,hcl,E⟩:=h
 have D:∀cs∈css,cs.length=9:=(E w (aI.rf _ _ _)).lens
 have ajC:=(E w (aI.rf _ _ _)).ones
 rcases I.2 with ⟨O,RI⟩|⟨g,cap,cur,rfl,g1,R,g3,g4,G,L⟩
 ·omega
 have G:cur.size=cap*9:=G
 have L:cur.toList.take (l.length*9)=css.flatten:=L
 have hb:ah w g 128 cur:=R
 have cL:css.flatten.length=l.length*9:=I.1
 obtain⟨y,N⟩:∃y,y=css.flatten.drop (j*9):=⟨_,rfl⟩
 obtain⟨m,hm⟩:∃m,m=l.length-j:=⟨_,rfl⟩
 have T:y.length=m*9:=aG
 have Y:∀t u,y[t]?=some u->cur[j*9+t]?=some u:=by
  grind
 obtain⟨A,hA,hsrc⟩:∃A:Addr,(if cap=j then (some ⟨g,0,none⟩:Option Addr)else some ⟨g,j*9,none⟩)=some A/\Hid (∀t u,y[t]?=some u->w.drew.cell? (A.add t)=some u):=by
  by_cases h:cap=j
  ·refine⟨⟨g,0,none⟩,Ib,λt u hu=>?_⟩;have O:y.length=0:=af;rw[List.length_eq_zero_iff.1 O]at hu;simp at hu
  ·refine⟨⟨g,j*9,none⟩,Ib,λt u hu=>?_⟩;rw[Addr.add_lit];exact (hb.cell _).trans (Y t u hu)
 have s1:Hid (y.length=m*9):=T
 have s2:Hid (∀u∈y,u.oneCell'=true):=λu hu=>ajC u (List.mem_of_mem_drop (by rw[<- N];exact hu))
 have s3:Hid (∀t,t<y.length->(w.drew.cell? ⟨g,0+k*9+t,none⟩).isSome=true/\w.drew.frozen? ⟨g,0+k*9+t,none⟩=false):=by intro t ht;refine⟨?_,hb.frozen _⟩;show (w.cell? _).isSome=true;rw[hb.cell,Array.getElem?_eq_getElem af];rfl
 obtain⟨W1,F⟩:∃W1,W1=w.drew.setCells g (0+k*9) y:=⟨_,rfl⟩
 have X:ah W1 g 128 (Lib.lay cur (0+k*9) y):=by rw[F];exact ah.ajk y hb.drew
 have B:w.drew.grownBy W1 (some g):=by rw[F];exact ab1 g y _ _
 have H:(Lib.lay cur (0+k*9) y).size=cap*9:=by rw[Lib.lay_size,G]
 obtain⟨J,azz,hb2,C⟩:=aoS (P:=prog) (w:=W1) (t:=123) (e:=128) underlying123 ax4 g ((l.length-1)*9) X (by rw[H];show (l.length-1)*9+9<=_;omega) awJ
 have Z:Hid (aV base base 128 cW (l.eraseIdx k) (.slice (some ⟨g,0,none⟩) (l.length-1) cap) J/\w.grownBy J (some g)):=by
  have W:w.grownBy J (some g):=⟨C.os.trans B.os,C.tape.trans B.tape,C.output.trans B.output,bn B.size C.size,λk hk V=>(C.block k (bz hk B.size) V).trans (B.block k hk V)⟩;have M:(l.eraseIdx k).length=l.length-1:=aG;have Jt:(css.eraseIdx k).length=l.length-1:=aG;refine⟨⟨css.eraseIdx k,⟨?_,.inr ⟨g,cap,_,by rw[M],g1,hb2,af,g4,?_,?_⟩⟩,af,λw' u=>?_⟩,W⟩
  ·rw[M,Db 9 _ (λcs h=>D cs (List.mem_of_mem_eraseIdx h)),Jt];rfl
  ·have h9:(Value.agg (gE vF (.slice none 0 0) (.slice none 0 0))).cells.size=9:=rfl;simp only[List.size_toArray,cF,nX,List.length_drop,Array.length_toList,H,h9];show _=cap*9;omega
  ·show List.take ((l.eraseIdx k).length*9) _=_;rw[M,dY,List.take_append_of_le_length aG,List.take_take,Nat.min_self,List.eraseIdx_eq_take_drop_succ,List.flatten_append,Tv 9 css D,Tw 9 css D,<- U,<- N];apply List.ext_getElem?;intro t;by_cases ht:t<(l.length-1)*9
   ·rw[List.getElem?_take_of_lt ht,Array.getElem?_toList,Lib.lay_get? _ _ _ _ af];by_cases h1:t<k*9
    ·grind
    grind
   grind
  ·have Q:=E w' (aI.tr (aI.eM W base) u);rw[List.eraseIdx_eq_take_drop_succ,List.eraseIdx_eq_take_drop_succ];exact (Q.take k).append (Q.drop (k+1))
 have hW:Hid (W1=w.drew.setCells g (0+k*9) y):=F
 obtain⟨S,hi0,hz0⟩:=Option.map_eq_some_iff.1 aji
 have hz1:S.size=9:=aG
 have hlm:k+m=l.length-1:=af
 have hkc:k<=cap:=af
 have hkj:k≠j:=af
 have aEb:k<=j:=af
 have hjl:j<=l.length:=af
 have hmj:=hm.symm
 have vM:l.length-(l.length-1)=1:=af
 have aEc:¬(k:Int)=j:=af
 clear hm U
 clear F hcl E D ajC I L hb cL N T Y X B H hb2 C R
 go_enter func271,ntmps271
 go_wp2_with fail
 go_region_law (refine step_append_room rfl (.tmp 22) (.tmp 25) 123 rfl 128 S 9 underlying123 hi0 hz1 g 0 k cap fk A m (cap-j) y fk s1.aa hsrc.aa s2.aa af s3.aa ?_;rw[<- hW.aa])
 go_wp2
 go_ret
 exact⟨_,rfl,Z.aa.1,Z.aa.2⟩
theorem arC l a v w(h:aq cW l v w)(hl:∀s∈l,eB s.e)(X:l.length<=1000000) :
 Calls prog 110 #[v,bU a] w λe w'=>∃v',e=.returned (.tuple #[v',.int .i64 (jG l a).2])/\aV w.heap.size w.heap.size 128 cW (jG l a).1 v' w'/\K w w':=by
 have S:=ae λW (kW:K w W)=>Om l v W (bo h kW) hl X
 have U:=ae λW (kW:K w W)=>acB l a v W (bo h kW) X
 obtain⟨A,d,rfl⟩:=aw h
 clear h
 have J:=ah.new w 26 #[.int .i64 a.1,.int .u64 a.2.1,.int .u64 a.2.2]
 have G:=J.aS
 have HI:Hid (DP l a=match uP l a with|some k=>(k:Int)|none=>-1):=ae rfl
 have HC:Hid (jG l a=match uP l a with|none=>(l,170)|some k=>match l[k]? with|none=>(l,170)|some t=>(l.set k ⟨t.e,true⟩,0)):=ae rfl
 have N:=ae λk h=>@OK l a k h
 generalize jG l a=R at *
 generalize DP l a=I at *
 go_enter func110,ntmps110
 go_wp2_with fail
 generalize w.alloc _=H at *
 have B:=G.size
 have F:Hid (w.heap.size=w.heap.size):=ae rfl
 generalize cP:w.heap.size=g at J B F⊢
 replace F:=ae cP
 clear cP
 have qx:=J.cells
 refine (S.aa H G).mono ?_
 rintro e w2⟨v2,rfl,y,k2⟩
 have C:=G.tr k2
 go_wp2_with fail
 refine (U.aa w2 C).mono ?_
 rintro e j⟨rfl,O⟩
 replace C:=C.tr O
 replace y:=y.st O
 clear S U O
 cases ho:uP l a with
 | none => obtain rfl:I=-1:=Ds;have HQ:Hid (R=(l,170)):=ae K4;have Q:=ae (aV.low (aV.floor y B) B);clear y ho HI HC N;go_wp2;go_ret2;exact⟨_,ny,by rw[HQ.aa,F.aa];exact Q.aa,C⟩
 | some k =>
  obtain rfl:I=(k:Int):=Ds;obtain⟨t,h1,-,-,-⟩:=N.aa k ho;have HQ:Hid (R=(l.set k ⟨t.e,true⟩,0)):=ae V0;obtain⟨hk,sV⟩:=List.getElem?_eq_some_iff.1 h1;have fA:(k:Int)<l.length:=af;have Mo:¬(k:Int)<0:=af;have hkb:=y.blk;obtain⟨css,E,hcl,D⟩:=y;have T:=(D j (aI.rf _ _ _)).lens;have Y:k<css.length:=af;have Z:=(D j (aI.rf _ _ _)).FQ;have L:k*9+8<css.flatten.length:=by rw[Z];show k*9+8<l.length*9;omega
  rcases E.2 with ⟨h0,RI⟩|⟨go,cap,cur,rfl,-⟩
  ·omega
  obtain⟨hcell,hfz⟩:=Fb E;have d8:=hcell _ L;rw[List.getElem?_eq_getElem L]at d8;have z8:=hfz (k*9+8);have M:=Vk E L (.bool true);have e9:css.flatten.set (k*9+8) (.bool true)=(css.set k ((css[k]).set 8 (.bool true))).flatten:=by rw[show k*9+8=k*cW.size+8 from rfl];exact OC cW.size (.bool true) css T k 8 Y ay
  rw[e9]at M;have hgo:=(hkb go rfl).1;have k4:K w (j.setCell ⟨go,k*9+8,none⟩ (.bool true)):=C.setCell (by have:=G.size;simp;omega) _;have Q:Hid (aV g g 128 cW (l.set k ⟨t.e,true⟩) (.slice (some ⟨go,0,none⟩) l.length cap) (j.setCell ⟨go,k*9+8,none⟩ (.bool true))):=by refine ae (aV.low (aV.floor (base:=H.heap.size) (lo:=H.heap.size) (e:=128) ⟨css.set k ((css[k]).set 8 (.bool true)),by rw[List.length_set];exact M,by simp[hcl],λw' u=>?_⟩ B) B);have u3:aI H.heap.size (some go) j w':=aI.tr (a:=j) (b:=j.setCell ⟨go,k*9+8,none⟩ (.bool true)) ⟨rfl,rfl,rfl,Px,λi _ _ h3=>Below.heap_setCell j ⟨go,k*9+8,none⟩ (.bool true) i (by rintro rfl;exact h3 rfl)⟩ u;have V:=D w' u3;refine V.set k ?_;obtain⟨vf,ve,hcs,hf,he⟩:=V.2 k hk Y;rw[sV]at hcs hf he;exact⟨vf,ve,by rw[hcs];rfl,hf,he⟩
  clear hcell hfz E M D T Z hkb HI HC N h1 ho;go_wp2;go_ret2;exact⟨_,ny,by rw[HQ.aa,F.aa];exact Q.aa,k4⟩
theorem T6 l a v w(h:aq cW l v w)(X:∀s∈l,eB s.e)(D:l.length<=1000000) :
 Calls prog 203 #[v,bU a] w λe w'=>∃v',e=.returned v'/\aV w.heap.size w.heap.size 128 cW (fJ l a) v' w'/\K w w':=by
 have H:=ae λW (kW:K w W)=>Om l v W (bo h kW) X D
 have J:=ae λW (kW:K w W)=>OO l a v W (bo h kW) D
 obtain⟨A,d,rfl⟩:=aw h
 clear h
 have B:=ah.new w 26 #[.int .i64 a.1,.int .u64 a.2.1,.int .u64 a.2.2]
 have y:=B.aS
 have HI:Hid (rK l a=match ju l a with|some k=>(k:Int)|none=>-1):=ae rfl
 have HC:Hid (fJ l a=match ju l a with|none=>l|some k=>l.eraseIdx k):=ae rfl
 have E:=ae λk h=>@Kk l a k h
 generalize fJ l a=R at *
 go_enter func203,ntmps203
 go_wp2_with fail
 generalize w.alloc _=O at *
 refine (H.aa O y).mono ?_
 rintro e Y⟨U,rfl,j,Q⟩
 have q:=B.cells
 have u:=y.tr Q
 generalize rK l a=I at *
 clear B
 go_wp2_with fail
 refine (J.aa Y u).mono ?_
 rintro e Z⟨rfl,F⟩
 replace u:=u.tr F
 replace j:=j.st F
 clear H J F
 cases ho:ju l a with
 | none => obtain rfl:I=-1:=Ds;have HQ:Hid (R=l):=ae K4;have HW:=ae (aV.low (aV.floor j y.size) y.size);clear j ho HI HC E;go_wp2;go_ret;exact⟨_,rfl,Fz,u⟩
 | some k =>
  obtain rfl:I=(k:Int):=Ds;have HQ:Hid (R=l.eraseIdx k):=ae K4;obtain⟨t,L,-⟩:=E.aa k ho;obtain⟨hk,-⟩:=List.getElem?_eq_some_iff.1 L;have G:=apm l O.heap.size k (k+1) rfl U Z j hk D;rw[show ((k+1:Nat):Int)=(k:Int)+1 by omega]at G;have V:=ae G;clear G;have hb:=j.blk;have Mo:¬(k:Int)<0:=af;have C:=y.size;have T:=ae λg h=>bn C (hb g h).1
  have fA:(k:Int)<1000000:=af;clear j ho HI HC E L hb;go_wp2_with fail
  refine V.aa.mono ?_;rintro e w4⟨v4,rfl,N,M⟩;have HW:=ae (aV.low (aV.floor N C) C);have S:=(aI.eM M 0).k u T.aa;clear N M;go_wp2;go_ret;exact⟨_,rfl,Fz,S⟩
theorem OG{M p B w}(h:bA M p B w) :
 Calls prog 90 #[.pointer (some ⟨p.g,0,none⟩)] w λe w'=>e=.returned (.bool (mQ B))/\K w w':=by
 have HR:Hid (mQ B=decide (B.me=0)):=ae rfl
 have q:=h.blk.cell
 obtain⟨g,gl,gd,gr,gt,vd,vr,vp,vh,vl,vq,va,vt,vf,vw,kr⟩:=p
 simp only at q
 clear h
 have j:=K.rf w
 generalize mQ B=R at *
 go_enter func90,ntmps90
 go_wp2
 go_ret
 exact⟨fE,j⟩
theorem TS{M p B w}(h:bA M p B w)(y:bD B) :
 Calls prog 94 #[.pointer (some ⟨p.g,0,none⟩)] w λe w'=>∃v',e=.returned v'/\aA (λk=>k<w.heap.size) w.heap.size 3 cR (oU B) v' w'/\K w w':=by
 have hn:B.par.length<=1000000:=by have:=sD y.tr;omega
 have q:=h.q
 have u:=ae λW (k:K w W)=>aqa B.par B.me p.vp W (h.bI.at k).par hn
 have C:=aw h.bI.now.par
 obtain⟨g,gl,gd,gr,gt,vd,vr,vp,vh,vl,vq,va,vt,vf,vw,kr⟩:=p
 simp only at q u C
 obtain⟨A,c,rfl⟩:=C
 clear h y
 unfold oU
 generalize FH B.par B.me=R at *
 go_enter func94,ntmps94
 go_upto_region 1 with (fail)
 have qs:=q
 refine dD 9 [([],[]),([0],[(3,0)]),([1],[(4,1)]),([2],[(5,2)]),([],[]),([4],[(7,4)]),([5],[(8,5)]),([6],[(9,6)]),([3,7],[(6,3),(10,7)]),([0,1,2,3,4,5,6,7,8],[(11,8)])] 12 ?_
 iterate 8 refine au.i ?_
 refine au.op (λv W=>aA (λk=>k<w.heap.size) w.heap.size 3 cR R v W) (λ_ _ _ h k=>h.st k) (λV W kW hp=>?_) ?_
 ·(try simp only[cd,aO,aQ,bW,bY,aJ]at hp)
  simp[bP,aE,List.lookup,hp,cN,execOp,aF,q,go_sem];refine (u.aa W kW).mono ?_;rintro e O⟨S,rfl,j,E⟩;exact⟨_,rfl,(j.less λk hk=>bz hk kW.size).low kW.size,E⟩
 clear qs
 intro V W kW hA
 simp only[aO,aQ,cz,aJ,Nat.reduceAdd]at hA
 obtain⟨H,F,I,J,N,G,L,D,j,-⟩:=hA
 obtain⟨Q,c2,t⟩:=j.slice
 rw[t]at j
 apply aH.pure
 rfl
 simp[aE,List.lookup,ba,t,execOp,aF,go_sem]
 rfl
 refine aH.nil ?_
 simp only[fX,Act.put,rJ,qM,qL,Nat.reduceAdd,ba,H,F,I,J,N,G,L,D,t]
 go_wp2
 go_ret
 exact⟨_,rfl,j,kW⟩
theorem acC l a:(di (pL l) a).isSome=dG l a:=by
 have key:∀(l:List aR) (n i:Nat),(fR a ((l.zipIdx n).map λp=>(p.1,Value.int .i64 p.2)) i).isSome=dG l a:=by
  intro l
  induction l with
  | nil=>intro n i;rfl
  | cons x l j =>
   intro n i;simp only[List.zipIdx_cons,jU,fR,dG,List.any_cons];by_cases h:x=a
   ·simp[h]
   ·simp only[h,if_false,decide_false,Bool.false_or];exact j (n+1) (i+1)
 unfold di pL;rw[Option.isSome_map];exact key l 0 0
theorem V1 W:(zeroValue 3).run prog W=.ok (.int .i64 0) W:=by kernel_rfl
theorem Tx{M p B w}(h:bA M p B w)(hG:bD B) a :
 Calls prog 108 #[.pointer (some ⟨p.g,0,none⟩),bU a] w λe w'=>e=.returned (.bool (tu B a))/\K w w':=by
 have y:Hid (tu B a=(dG B.told a||dG B.st.ab a)):=ae rfl
 have hb:=ah.new w 26 #[.int .i64 a.1,.int .u64 a.2.1,.int .u64 a.2.2]
 have u:=hb.aS
 have H:=ae h
 have D:=ae λW (k:K w W)=>Hi B.st a (.agg (cE B.st p.vl p.vq p.va)) W ⟨_,_,_,rfl,(h.bI.at k).list,(h.bI.at k).prom,(h.bI.at k).ab⟩ Br
 have C:=ae λW (k:K w W)=>(Df QX underlying160 (V1 W) (h.wm.st k) a).1
 simp only[acC]at C
 have E:=aw h.bI.now.list
 have G:=aw h.bI.now.prom
 have F:=aw h.bI.now.ab
 have q:=h.q
 obtain⟨g,gl,gd,gr,gt,vd,vr,vp,vh,vl,vq,va,vt,vf,vw,kr⟩:=p
 simp only at q D C E G F
 obtain⟨T,cl,rfl⟩:=E
 obtain⟨L,Q,rfl⟩:=G
 obtain⟨N,S,rfl⟩:=F
 generalize (di (pL B.told) a).getD (.int .i64 0)=J at *
 generalize tu B a=R at *
 clear h hG H
 go_enter func108,ntmps108
 go_upto_region 1 with (fail)
 generalize w.alloc _=I at *
 generalize w.heap.size=O at hb⊢
 have t:=hb.cells
 have A:=λW (k:K I W)=>q W (u.tr k)
 have j:∀W,K I W->(Instr.lookup 160 (.map (some gt)) (.agg #[.int .i64 a.1,.int .u64 a.2.1,.int .u64 a.2.2]) true).run prog W=.ok (.tuple #[J,.bool (dG B.told a)]) W:=λW k=>C.aa W (u.tr k)
 cases ht:dG B.told a
 ·have HQ:Hid (R=dG B.st.ab a):=ae (by rw[y.aa,ht];rfl);rw[ht]at j;clear ht y;have qs:=And.intro A (And.intro t j);refine dD 11 [([],[]),([0],[(8,0)]),([1],[(9,1)]),([2],[(10,2)]),([],[]),([3,4],[(11,3),(12,4)]),([5],[(13,5)]),([6],[(7,6)]),([6],[(7,6)]),([7],[(14,7)]),([8],[(15,8)])] 25 ?_;iterate 11 refine au.i ?_
  clear qs;intro V W kW hA;simp only[aO,aQ,cz,aJ,Nat.reduceAdd]at hA;refine aH.h ?_;have q2:=λW' (k:K W W')=>q W' (u.tr (kW.tr k))
  have ud:=λW' (k:K W W')=>t W' (kW.tr k)
  have k2:=u.tr kW;generalize dG B.st.ab a=Z at *;clear hA A j t hb;go_upto_region 2 with (fail);have qs:=And.intro q2 ud;refine dD 10 [([],[]),([0],[(16,0)]),([1],[]),([1,2],[(18,2)]),([1,3],[(19,3)]),([1,4],[(20,4)]),([1],[]),([1,5,6],[(21,5),(22,6)]),([1,7],[(17,1),(23,7)]),([8],[(24,8)])] 25 ?_;iterate 7 refine au.i ?_
  refine au.is (.bool Z) (λV W kW hp=>?_) ?_
  ·(try simp only[cd,aO,aQ,bW,bY,aJ]at hp)
   simp[bP,aE,List.lookup,hp,cN,execOp,aF,aJ,q2,ud,go_sem];refine (D.aa W (k2.tr kW)).mono ?_;exact Bs
  iterate 2 refine au.i ?_
  exact agL
 ·have HQ:Hid (R=true):=ae (by rw[y.aa,ht];rfl);rw[ht]at j;clear ht y;have qs:=And.intro A (And.intro t j);refine dD 11 [([],[]),([0],[(8,0)]),([1],[(9,1)]),([2],[(10,2)]),([],[]),([3,4],[(11,3),(12,4)]),([5],[(13,5)]),([6],[(7,6)]),([6],[(7,6)]),([7],[(14,7)]),([8],[(15,8)])] 25 ?_;iterate 11 refine au.i ?_
  clear qs;intro V W kW hA;simp only[aO,aQ,cz,aJ,Nat.reduceAdd]at hA;refine aH.h ?_;have q2:=λW' (k:K W W')=>q W' (u.tr (kW.tr k))
  have ud:=λW' (k:K W W')=>t W' (kW.tr k)
  have k2:=u.tr kW;clear hA A j t hb;go_upto_region 2 with (fail);have qs:=And.intro q2 ud;refine dD 10 [([],[]),([0],[(16,0)]),([1],[]),([1,2],[(18,2)]),([1,3],[(19,3)]),([1,4],[(20,4)]),([1],[]),([1,5,6],[(21,5),(22,6)]),([1,7],[(17,1),(23,7)]),([8],[(24,8)])] 25 ?_;iterate 7 refine au.i ?_
  refine au.i ?_;iterate 2 refine au.i ?_
  exact agL
