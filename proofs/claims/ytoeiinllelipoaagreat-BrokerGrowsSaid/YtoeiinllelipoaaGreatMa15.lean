/-
  The walk of broker.Open (layer 20). Conditions: lists of at most a million; a disk of records that make a state.
-/
import Derived.Test.YtoeiinllelipoaaGreatMa14
import Derived.Deep.RegionLaw
import Derived.Lib.SlicesDelete
import Derived.Test.YtoeiinllelipoaaGreatMz
set_option maxRecDepth 100000
set_option maxHeartbeats 16000000
set_option linter.unusedVariables false
set_option linter.unusedSimpArgs false
namespace Go.Proofs.YtoeiinllelipoaaGreat
open Go Go.RowKit Tryz
theorem abZ(p:List Int)(n:Int)(v:Value)(g:Nat)(w:World)(i:∃A c,v=.slice A p.length c)(hg:ai w g 22 #[v])(hn:p.length<=1000000) :
 Calls prog 31 #[.int .i64 n,.pointer (some ⟨g,0,none⟩)] w λe w'=>e=.returned (.bool (jd p n))/\K w w':=by
 obtain⟨A,c,rfl⟩:=i
 have q:=hg.cell
 have kk:=K.rf w
 have HC:Hid (jd p n=(decide (0<=n)&&decide (n<(p.length:Int)))):=ae rfl
 generalize jd p n=R at *
 go_enter func31,ntmps31
 by_cases h0:0<=n
 ·by_cases h1:n<(p.length:Int)
  ·have HR:Hid (R=true):=ae VW;exact yU
  ·have HR:Hid (R=false):=ae VW;exact yU
 ·have HR:Hid (R=false):=ae agK;exact yU
def tZ(me:Int)(p aZ:List Int)(d:lq)(s:bA):aB:=⟨me,p,aZ,s,[],0,[],[],[],[],d⟩
theorem adw(p aZ:List Int)(me:Int)(t M C:Value)(w:World)(H:ar eS p t w)(h2:ar eS aZ M w)(Z:p.length<=1000000)(pC:aZ.length<=1000000)(G:C=.pointer none∨∃gd,C=.pointer (some ⟨gd,0,none⟩))
 (u:iw p=false∨jd p me=false∨C=.pointer none∨tc p aZ=false) :
 Calls prog 8 #[.int .i64 me,t,M,C] w λe w'=>e=.returned (.tuple #[.pointer none,.int .i64 (if iw p then 1 else 120)])/\K w w':=by
 have O:Hid ((if iw p then (1:Int)else 120)=if iw p then (1:Int)else 120):=ae rfl
 have D:Hid (Bw p=if iw p then 0 else 120):=ae rfl
 have X:=ae λW (k:K w W)=>Tm p t W (aW H k) Z
 have k1:K w (w.alloc (.cells #[t] 22)):=(K.rf w).al _
 have hb:=ai.new w 22 #[t]
 have hs:=az H
 have Q:=ae λn g W hg=>abZ p n t g W hs hg Z
 obtain⟨A1,c1,rfl⟩:=hs
 obtain⟨A2,c2,rfl,S,-⟩:=h2
 have s:=ae S
 generalize Y:(if iw p then (1:Int)else 120)=R at O⊢
 have HR:=ae Y
 generalize Bw p=T at *
 clear H S Y
 go_enter func8,ntmps8
 go_upto_region 1 with (fail)
 generalize w.alloc _=w1 at *
 generalize w.heap.size=g at hb⊢
 have q:=hb.cell
 go_wp2_with fail
 refine (X.aa w1 k1).mono ?_
 rintro e w2⟨rfl,I⟩
 replace hb:=hb.below I hb.lt
 replace k1:=k1.tr I
 clear q I
 cases ht:iw p
 ·have HQ:Hid (R=120):=ae agS;obtain rfl:T=120:=by rw[D.aa,ht];rfl
  clear ht u G;exact KZ
 have HQ:Hid (R=1):=ae agS
 obtain rfl:T=0:=by rw[D.aa,ht];rfl
 rw[ht]at u
 replace u:=u.resolve_left au
 have B:=ae u
 have A:=ae G
 clear ht u G D HR O X
 go_wp2_with fail
 refine (Q.aa _ g w2 hb).mono ?_
 rintro e U⟨rfl,E⟩
 replace hb:=hb.below E hb.lt
 replace k1:=k1.tr E
 clear E
 cases hm:jd p me
 ·clear B A s;exact KZ
 rcases A.aa with rfl|⟨gd,rfl⟩
 ·clear B A s;exact KZ
 have L:Hid (tc p aZ=false):=ae (by
  have:=B.aa;rw[hm]at this;exact (this.resolve_left au).resolve_left aj)
 clear B A hm
 by_cases h3:aZ.length<1
 ·have h3':(aZ.length:Int)<1:=af;clear s;exact KZ
 have h3':¬(aZ.length:Int)<1:=af
 by_cases h4:32<aZ.length
 ·have h4':32<(aZ.length:Int):=af;clear s;exact KZ
 have h4':¬32<(aZ.length:Int):=af
 obtain⟨b,off,rfl,V⟩:=ints_at s.aa af
 have uO:=ae V
 have hh:Hid (¬ ∀k (h:k<aZ.length),jd p aZ[k]=true):=ae λh=>by
  have:=L.aa;rw[show tc p aZ=true by
   simp only[tc,cz,decide_eq_true_eq,pU];exact⟨⟨af,af⟩,λx y=>by obtain⟨k,hk,rfl⟩:=List.mem_iff_getElem.1 y;exact h k hk⟩]at this
  cases this
 clear V s L
 go_wp2_with fail
 have kk:=K.rf U
 go_loopw [13,43,44,45,46,47,48,49,50] (fun _ i _ _ _ _ _ _ _ W=>∃j:Nat,j<=aZ.length/\i=.int .i64 (j:Int)/\Hid (∀k (h:k<aZ.length),k<j->jd p aZ[k]=true)/\K U W) (fun _ i _ _ _ _ _ _ _ _=>aZ.length-(intOf i).toNat)
 case atStart=>exact⟨0,af,rfl,ae λk _ h=>af,kk⟩
 case round =>
  clear kk;obtain⟨j,hj,rfl,J,kr⟩:=hrel;by_cases hlt:j<aZ.length
  ·have ba:(j:Int)<(aZ.length:Int):=af;have cj:=uO.aa wr (k1.tr kr) j hlt;have F:Hid (jd p aZ[j]=true->∀k (h:k<aZ.length),k<j+1->jd p aZ[k]=true):=ae λh k hk hkj=>by
    by_cases e:k=j
    ·subst e;exact h
    ·exact J.aa k hk af
   generalize aZ[j]=x at *;have oz:=hb.below kr hb.lt;go_wp2_with fail
   refine (Q.aa _ g wr oz).mono ?_;rintro e w4⟨rfl,N⟩;have kf:=k1.tr (kr.tr N);cases y:jd p x
   ·clear F J;go_wp2;go_ret2;exact⟨jL,kf⟩
   have uZ:=ae (F.aa y);have gB:=kr.tr N;clear y F cj;go_wp2;go_roundw
   case rel=>exact⟨j+1,af,bO,uZ,gB⟩
   case measure=>simp[intOf];omega
  ·exact absurd (λk h=>J.aa k h af) hh.aa
theorem lr.xe{gd:Nat}{vh i:Value}{w0 w w':World}(h:lr gd vh i w w')(k:K w0 w)(_:∀b,jf gd vh b->b<w0.heap.size):lr gd vh i w0 w':=⟨(ah.bg k _).tr h.up,λb hb=>(h.new b hb).imp id λa=>bq k.size a⟩
structure Qu(gd:Nat)(vh:Value)(B:aB)(w:World)(e:Ending)(w':World)(q:cV):Prop where
 ret:e=.returned (.tuple #[.pointer (some ⟨q.g,0,none⟩),.int .i64 0])
 dd:q.gd=gd
 br:bC (λk=>k<w.heap.size∨bn q k) q B w'
 up:ah (jf gd vh) w w'
 new:∀k,bn q k->jf gd vh k∨w.heap.size<=k
 g:w.heap.size<=q.g
def akz(gd:Nat)(vh:Value)(d:lq)(w:World)(e:Ending)(w':World):Prop:=∃h,e=.returned (.tuple #[.pointer none,.int .i64 90])/\MK gd h d w'/\lr gd vh h w w'
def DH(gd:Nat)(vh:Value)(d:lq)(s:bA)(me:Int)(p aZ:List Int)(w:World)(e:Ending)(w':World):Prop :=
 if jw (eP (dS s))<=d.room then ∃q,Qu gd vh (tZ me p aZ ⟨eP (dS s),d.room⟩ (dS s)) w e w' q else akz gd vh d w e w'
theorem agT{M:Nat->Prop}{e:TypeId}{base:Nat}{l:List Int}{v:Value}{w:World}{Y:Nat->Prop}(h:aT Y base e eS l v w)(s:∀b,v.ownBlock=some b->¬M b):Fx M (λW=>ar eS l v W) w:=λW u=>by obtain⟨css,i,t,j⟩:=h;have hcs:=aa7 (j w (ah.rf _ _));exact AU (eE i u s) agH
theorem Tn{P:Program}{t kt h:TypeId}(i:P.underlying t=some (.map kt h))(W:World):(Instr.makeMap t none).run P W=.ok (.map (some W.heap.size)) (W.alloc (.map #[] 0)):=by simp[Instr.makeMap,run_underlying i,go_sem]
theorem abo(gd:Nat)(vh:Value)(d:lq)(s:bA)(p aZ:List Int)(me:Int)(S v2:Value)(w:World)(h:MK gd vh d w)(hG:kX d s)(hA:FN (d.gU.map bV))(hl:s.life+1<18446744073709551616)(I:Fx (jf gd vh) (λW=>ar eS p S W) w)(O:Fx (jf gd vh) (λW=>ar eS aZ v2 W) w)
 (ht:iw p=true) (hm:jd p me=true) (hh:tc p aZ=true) :
 Calls prog 8 #[.int .i64 me,S,v2,.pointer (some ⟨gd,0,none⟩)] w (DH gd vh d s me p aZ w):=by
 have dK:p.length<=1000000:=by have:=vO ht;omega
 obtain⟨⟨pC,BW⟩,hall⟩:(1<=aZ.length/\aZ.length<=32)/\∀x∈aZ,jd p x=true:=by simpa only[tc,cz,decide_eq_true_eq,pU]using hh
 have Ev:Hid (∀e w' q,jw (eP (dS s))<=d.room->Qu gd vh (tZ me p aZ ⟨eP (dS s),d.room⟩ (dS s)) w e w' q->DH gd vh d s me p aZ w e w'):=ae λe w' q c h=>by unfold DH;rw[if_pos c];exact⟨q,h⟩
 have Jm:Hid (∀e w',¬jw (eP (dS s))<=d.room->akz gd vh d w e w'->DH gd vh d s me p aZ w e w'):=ae λe w' c h=>by unfold DH;rw[if_neg c];exact h
 have HB:Hid (∀W e w',DG gd vh d s W e w'->if jw (eP (dS s))<=d.room then ∃gl F vr vl vp va,Yb gd vh ⟨eP (dS s),d.room⟩ (dS s) W e w' gl F vr vl vp va else Yc gd vh d W e w'):=ae λW e w' h=>h
 have C3:=ae λW (k:K w W)=>aoI gd vh d s W (h.st k) hG hA hl
 generalize jw (eP (dS s))=DL at *
 generalize hd':(⟨eP (dS s),d.room⟩:lq)=d' at *
 generalize hs':dS s=t at *
 generalize DH gd vh d s me p aZ w=Post at *
 generalize hBP:DG gd vh d s=BP at *
 have HDX:=ae h.lt
 have H1:=ae I
 have H2:=ae O
 clear hd' hs' hBP hG hl hh h
 have HTT:Bw p=0:=by unfold Bw;rw[if_pos ht]
 have C1:=ae λW (k:K w W)=>Tm p S W (I.at k) dK
 rw[HTT]at C1
 have M:K w (w.alloc (.cells #[S] 22)):=(K.rf w).al _
 have hb:=ai.new w 22 #[S]
 have hs:=az I.now
 have C2:=ae λn g W hg=>abZ p n S g W hs hg dK
 obtain⟨A1,c1,rfl⟩:=hs
 obtain⟨A2,c2,rfl,fg,-⟩:=O.now
 have vB:=ae fg
 clear I O fg HTT ht
 go_enter func8,ntmps8
 go_upto_region 1 with (fail)
 generalize w.alloc _=w1 at *
 generalize hg0:w.heap.size=g at hb⊢
 have Ry:=ae hg0
 clear hg0
 have q:=hb.cell
 go_wp2_with fail
 refine (C1.aa w1 M).mono ?_
 rintro e w2⟨rfl,k2⟩
 replace hb:=hb.below k2 hb.lt
 replace M:=M.tr k2
 clear q k2 C1
 go_wp2_with fail
 refine (C2.aa _ g w2 hb).mono ?_
 rintro e w3⟨rfl,k3⟩
 replace hb:=hb.below k3 hb.lt
 replace M:=M.tr k3
 clear k3
 rw[hm]
 have h3':¬(aZ.length:Int)<1:=af
 obtain⟨b,off,rfl,hcell⟩:=ints_at vB.aa af
 have uO:=ae hcell
 have Qp:Hid (∀k (h:k<aZ.length),jd p aZ[k]=true):=ae λk hk=>hall _ (bW hk)
 clear hcell vB hall hm
 go_wp2_with fail
 have kk:=K.rf w3
 go_loopw [13,43,44,45,46,47,48,49,50] (fun _ i _ _ _ _ _ _ _ W=>∃j:Nat,j<=aZ.length/\i=.int .i64 (j:Int)/\K w3 W) (fun _ i _ _ _ _ _ _ _ _=>aZ.length-(intOf i).toNat)
 case atStart=>exact⟨0,af,rfl,kk⟩
 case round =>
  clear kk;obtain⟨j,hj,rfl,kr⟩:=hrel;by_cases hlt:j<aZ.length
  ·have ba:(j:Int)<(aZ.length:Int):=af;have cj:=uO.aa wr (M.tr kr) j hlt;have y:=Qp.aa j hlt;generalize aZ[j]=x at *;have oz:=hb.below kr hb.lt;go_wp2_with fail
   refine (C2.aa _ g wr oz).mono ?_;rintro e w4⟨rfl,k4⟩;rw[y];have gB:=kr.tr k4;clear y cj;go_wp2;go_roundw
   case rel=>exact⟨j+1,af,bO,gB⟩
   case measure=>simp[intOf];omega
  ·have ba:¬(j:Int)<(aZ.length:Int):=af;have kr:=M.tr kr;have hb:=hb.below (by assumption:K w3 wr) hb.lt;clear hlt hj M Qp uO C2;go_wp2_with fail
   refine (C3.aa wr kr).mono ?_;intro e D R;replace R:=HB.aa _ _ _ R;have MS:=ae kr;have Zt:=ae hb;clear HB C3 hb kr;by_cases hfit:DL<=d.room
   ·rw[if_pos hfit]at R;obtain⟨gl,F,vr,vl,vp,va,⟨rfl,hlg,G,B8,jz,ij⟩⟩:=R;have xT:=ae hfit;have gy:=Zt.aa.bT B8 λy=>by have:=HDX.aa _ y;have:=Ry.aa;omega
    obtain⟨⟨U,cl,rfl⟩,⟨Ap,Z,rfl⟩,Aa,Y,rfl⟩:(∃A c,vl=.slice A t.list.length c)/\(∃A c,vp=.slice A t.prom.length c)/\∃A c,va=.slice A t.ab.length c:=⟨az G.now.1,az G.now.2.1,az G.now.2.2⟩;have E:=ai.new D 52 jG;have q7:=E.cell;have z7:=E.frozen;have HLG:=ae hlg;have HST:=ae G;have Cp:=ae B8;have xU:=ae jz;clear hlg G B8 jz ij hfit;go_upto_region 14 with (fail);clear q7 z7 E;have E:=ai.new D 52 (bS t (.slice U t.list.length cl) (.slice Ap t.prom.length Z) (.slice Aa t.ab.length Y));have H:K D (D.alloc (.cells (bS t (.slice U t.list.length cl) (.slice Ap t.prom.length Z) (.slice Aa t.ab.length Y)) 52)):=(K.rf D).al _;generalize D.alloc _=Q at *;generalize D.heap.size=g7 at E⊢;have iy:=gy.below H gy.lt;have q6:=iy.cells;have q7:=E.cells;have MN:Hid (∀W,K Q W->ar eS p (.slice A1 p.length c1) W):=ae λW k=>H1.aa W ((ah.bg MS.aa _).tr (Cp.aa.tr (ah.bg (H.tr k) _)))
    have vB:Hid (∀W,K Q W->ar eS aZ (.slice (some ⟨b,off,none⟩) aZ.length c2) W):=ae λW k=>H2.aa W ((ah.bg MS.aa _).tr (Cp.aa.tr (ah.bg (H.tr k) _)))
    clear gy iy E;go_upto_region 16 with (fail);refine aoc 9 [([],[]),([],[]),([1],[(62,1)]),([],[]),([3],[(64,3)]),([],[]),([],[]),([],[]),([],[]),([0,2,4,5,6,7,8],[(61,0),(63,2),(65,4),(66,5),(67,6),(68,7),(69,8)]),([9],[(70,9)]),([0,1,2,3,4,5,6,7,8,9,10],[(71,10)]),([0,1,2,3,4,5,6,7,8,9,10,11],[])] [7,8] 72 rfl ak ak ak ak au au ?ds ?_
    case ds =>
     intro k hk;simp at hk;rcases hk with rfl|rfl
     ·exact abY rfl rfl rfl underlying92
     ·exact abY rfl rfl rfl underlying93
    simp only[dR,dN,ew,dP];iterate 2 (apply aV.is;intro V W C B;(try simp only[aI,aJ,aM,aE,aF,ag]at B);simp[aL,aw,List.lookup,B,aS,execOp,ay,ag,aN,C,q6,go_sem];rfl)
    refine aV.ints p _ _ _ _ _ _ Rw rfl rfl af (λV W C B=>?_) ?_
    ·simp only[aI,aJ,aM,aE,aF,ag]at B;exact⟨rfl,by simp[aw,List.lookup,B];exact MN.aa W C⟩
    (apply aV.is;intro V W C B;(try simp only[aI,aJ,aM,aE,aF,ag]at B);simp[aL,aw,List.lookup,B,aS,execOp,ay,ag,aN,C,q6,go_sem];rfl)
    refine aV.ints aZ _ _ _ _ _ _ Rw rfl rfl af (λV W C B=>?_) ?_
    ·simp only[aI,aJ,aM,aE,aF,ag]at B;exact⟨rfl,by simp[aw,List.lookup,B];exact vB.aa W C⟩
    iterate 2 (apply aV.is;intro V W C B;(try simp only[aI,aJ,aM,aE,aF,ag]at B);simp[aL,aw,List.lookup,B,aS,execOp,ay,ag,aN,C,q7,go_sem];rfl)
    refine aV.op (λv W=>∃b,v=.map (some b)/\Q.heap.size<=b/\fS encI W b []) (λ_ _ _ ⟨b,e,I,O⟩ k=>⟨b,e,I,O.st k⟩) (λV W C B=>?_) ?_
    ·simp[aL,execOp,ay,Tn underlying92,aS];exact⟨⟨C.size,fS.new W⟩,(K.rf W).al _⟩
    refine aV.op (λv W=>∃b,v=.map (some b)/\Q.heap.size<=b/\fS km W b []) (λ_ _ _ ⟨b,e,I,O⟩ k=>⟨b,e,I,O.st k⟩) (λV W C B=>?_) ?_
    ·simp[aL,execOp,ay,Tn underlying93,aS];exact⟨⟨C.size,fS.new W⟩,(K.rf W).al _⟩
    intro V W C hne hA;simp only[aJ,aM,eA,ag,Nat.reduceAdd]at hA;obtain⟨e0,e1,eu,e3,cD,e5,e6,⟨J,e7,QY,I9⟩,⟨L,e8,pI,Rz⟩,-⟩:=hA;obtain⟨A5,c5,e2⟩:=eu.slice;obtain⟨A6,c6,e4⟩:=cD.slice;rw[e2]at eu;rw[e4]at cD;have ax4:J≠L:=λe=>hne 7 aj 8 aj au (by rw[e7,e8,e])
    apply bu.pure;rfl;simp[aw,List.lookup,bj,e0,e2,e4,e5,e6,e7,e8,execOp,ay,go_sem];rfl;refine bu.val (.pointer (some ⟨W.heap.size,0,none⟩)) (W.alloc (.cells #[.int .i64 me,.slice A5 p.length c5,.slice A6 aZ.length c6,.pointer (some ⟨gl,0,none⟩),.int .u64 (t.life:Int),.slice U t.list.length cl,.slice Ap t.prom.length Z,.slice Aa t.ab.length Y,.slice none 0 0,.int .u64 0,.map (some J),.slice none 0 0,.map (some L),.slice none 0 0] 95)) rfl (by simp[aw,List.lookup,bj,execOp,ay,go_sem]) ?_;apply bu.pure;rfl;simp[aw,List.lookup,bj,execOp,ay,go_sem];rfl;apply bu.pure;rfl;simp[aw,List.lookup,bj,execOp,ay,go_sem];rfl;refine bu.nil ?_;simp only[bF,Act.put,cO,cM,cL,Nat.reduceAdd,bj,e0,e1,e2,e3,e4,e5,e6,e7,e8];have hbk:=ai.new W 95 #[.int .i64 me,.slice A5 p.length c5,.slice A6 aZ.length c6,.pointer (some ⟨gl,0,none⟩),.int .u64 (t.life:Int),.slice U t.list.length cl,.slice Ap t.prom.length Z,.slice Aa t.ab.length Y,.slice none 0 0,.int .u64 0,.map (some J),.slice none 0 0,.map (some L),.slice none 0 0];have T:K W (W.alloc (.cells #[.int .i64 me,.slice A5 p.length c5,.slice A6 aZ.length c6,.pointer (some ⟨gl,0,none⟩),.int .u64 (t.life:Int),.slice U t.list.length cl,.slice Ap t.prom.length Z,.slice Aa t.ab.length Y,.slice none 0 0,.int .u64 0,.map (some J),.slice none 0 0,.map (some L),.slice none 0 0] 95)):=(K.rf W).al _;generalize hWa:W.alloc _=Wa at *;generalize bJ:W.heap.size=g9 at *;have HQ:Hid (Post (.returned (.tuple #[.pointer (some ⟨g9,0,none⟩),.int .i64 0])) Wa):=ae (by
     have wK:=H.size;have ou:=Cp.aa.size;have MT:=MS.aa.size;have k5:=H.tr (C.tr T);have akA:=HLG.aa.st k5;have ayZ:=HLG.aa.lt;have aDg:=I9.lt;have aDh:=Rz.lt;have akB:=I9.st T;have akC:=Rz.st T;refine Ev.aa _ _ ⟨g9,gl,gd,J,L,F,vr,.slice A5 p.length c5,.slice A6 aZ.length c6,.slice U t.list.length cl,.slice Ap t.prom.length Z,.slice Aa t.ab.length Y,.slice none 0 0,.slice none 0 0,.slice none 0 0,[]⟩ xT.aa ⟨rfl,rfl,⟨hbk,akA,akB,akC,λW' u=>?_,λk hk=>.inr hk,λk hk=>?_,ax4⟩,?_,λk hk=>?_,?_⟩
     ·have ax5:∀k,k<D.heap.size->(k<w.heap.size∨k=g9∨k=J∨k=L∨jg gl gd F vr k)->(k<wr.heap.size∨jg gl gd F vr k):=λk hk y=>by
       rcases y with y|y|y|y|y
       ·exact .inl af
       ·omega
       ·omega
       ·omega
       ·exact .inr y
      have G:=(HST.aa.to (X:=λ_=>False) (N:=λk=>k<w.heap.size∨k=g9∨k=J∨k=L∨jg gl gd F vr k) (ah.bg k5 _) (λk hk=>hk.elim) ax5) W' u;have kK:∀(l:List Int) (A:Option Addr) (c:Nat),aT (λk=>k<Q.heap.size) Q.heap.size 3 eS l (.slice A l.length c) W->∀b,(Value.slice A l.length c).ownBlock=some b->¬(b<w.heap.size∨b=g9∨b=J∨b=L∨jg gl gd F vr b):=λl A c hO b hb y=>by
       have lM:=hO.blk b hb;obtain⟨css,hr,-,-⟩:=hO;obtain⟨cur,akD⟩:=gg hr hb;rcases y with y|y|y|y|y
       ·omega
       ·omega
       ·subst y;exact I9.cells akD
       ·subst y;exact Rz.cells akD
       ·have:=ayZ b y;omega
      have hi1:=(agT eu (kK p A5 c5 eu)) W' ((ah.bg T _).tr u);have hi2:=(agT cD (kK aZ A6 c6 cD)) W' ((ah.bg T _).tr u);exact⟨hi1,hi2,G.1,G.2.1,G.2.2,iu _ _,iu _ _,iu _ _,auR _⟩
     ·have h9:=hbk.lt;rcases hk with hk|hk|hk|hk|hk
      ·omega
      ·exact hk▸h9
      ·exact hk▸akB.lt
      ·exact hk▸akC.lt
      ·exact akA.lt k hk
     ·exact (ah.bg MS.aa _).tr (Cp.aa.tr (ah.bg k5 _))
     ·rcases hk with hk|hk|hk|hk
      ·right;show _<=k;simp only at hk;omega
      ·right;simp only at hk;omega
      ·right;simp only at hk;omega
      ·exact (xU.aa k hk).imp id λh=>af
     ·show w.heap.size<=g9;omega)
    clear I9 Rz hbk T eu cD Ev Jm;go_wp2;exact HQ.aa
   ·rw[if_neg hfit]at R;obtain⟨F,rfl,hd,hu⟩:=R;have E:=ai.new D 52 jG;have q7:=E.cell;have z7:=E.frozen;have H:K D (D.alloc (.cells jG 52)):=(K.rf D).al _;have HZ:=ae (Jm.aa _ _ hfit ⟨F,rfl,hd.st H,(hu.xe MS.aa HDX.aa).k H⟩);clear hd hu hfit Ev Jm H;go_upto_region 14 with (fail);generalize D.alloc _=Q at *;clear q7 z7 E;go_wp2;exact HZ.aa
structure bH(B:aB):Prop where
 tr:iw B.par=true
 me:jd B.par B.me=true
 hm:tc B.par B.aZ=true
 dk:kX B.dk B.st
 tx:jF B.aK
 calls:B.calls<4611686018427387904
 bR:∀x∈B.bR,ed x.2=true/\oQ x.2
 told:B.told.length<=1000000
 eX:B.refused.length<=1000000
 waits:∀x∈B.waits,bP x=true/\cK x
 BK:B.waits.length<=1000000
theorem Uw{p aZ:List Int}(h:tc p aZ=true):1<=aZ.length/\aZ.length<=32:=by simp only[tc,cz,decide_eq_true_eq]at h;exact h.1
theorem abp{M:Nat->Prop}{p:cV}{B:aB}{w:World}(h:bC M p B w)(y:bH B)(c:Int) :
 Calls prog 67 #[.pointer (some ⟨p.g,0,none⟩),.int .i64 c] w λe w'=>e=.returned (.bool (Bm B c))/\K w w':=by
 have j:Hid (Bm B c=(decide (0<=c)&&decide (c<(B.aZ.length:Int))&&decide (B.aZ[c.toNat]?=some B.me))):=ae rfl
 have q:=h.q
 have D:=h.bL.now.aZ
 have G:=Uw y.hm
 obtain⟨g,gl,gd,gr,gt,vd,vr,vp,vh,vl,vq,va,vt,vf,vw,kr⟩:=p
 simp only at q D
 clear h y
 obtain⟨A,c1,rfl,C,-⟩:=D
 obtain⟨b,F,rfl,u⟩:=ints_at C af
 generalize Bm B c=R at *
 clear C
 go_enter func67,ntmps67
 go_upto_region 1 with (fail)
 by_cases s:0<=c
 rotate_left
 ·have HR:Hid (R=false):=ae (by rw[j.aa];simp[s]);clear j u;refine eM 26 [([],[]),([0],[(5,0)]),([1],[(6,1)]),([2],[]),([2],[]),([2,4],[(9,4)]),([2,5],[(10,5)]),([2,6],[(11,6)]),([2,7],[(12,7)]),([2,3,8],[(8,3),(13,8)]),([2,9],[(7,2),(14,9)]),([10],[(15,10)]),([11],[]),([11,12],[(17,12)]),([11,13],[(18,13)]),([11,14],[(19,14)]),([11],[]),([11,15,16],[(20,15),(21,16)]),([11,17],[(22,17)]),([11],[]),([11,19],[(24,19)]),([11,20],[(25,20)]),([11,21],[(26,21)]),([11,18,22],[(23,18),(27,22)]),([11,23],[(16,11),(28,23)]),([24],[(29,24)])] 30 rfl ak ak ak ak au ?_;simp only[dR,dN,ew,dP];iterate 26 (apply aV.is;intro V W kW i;(try simp only[aI,aJ,aM,aE,aF,ag]at i);simp[aL,aw,List.lookup,i,aS,execOp,ay,ag,aN,kW,q,s,go_sem];rfl)
  exact agU
 by_cases t:c<(B.aZ.length:Int)
 rotate_left
 ·have HR:Hid (R=false):=ae (by rw[j.aa];simp[t]);clear j u;refine eM 26 [([],[]),([0],[(5,0)]),([1],[(6,1)]),([2],[]),([2],[]),([2,4],[(9,4)]),([2,5],[(10,5)]),([2,6],[(11,6)]),([2,7],[(12,7)]),([2,3,8],[(8,3),(13,8)]),([2,9],[(7,2),(14,9)]),([10],[(15,10)]),([11],[]),([11,12],[(17,12)]),([11,13],[(18,13)]),([11,14],[(19,14)]),([11],[]),([11,15,16],[(20,15),(21,16)]),([11,17],[(22,17)]),([11],[]),([11,19],[(24,19)]),([11,20],[(25,20)]),([11,21],[(26,21)]),([11,18,22],[(23,18),(27,22)]),([11,23],[(16,11),(28,23)]),([24],[(29,24)])] 30 rfl ak ak ak ak au ?_;simp only[dR,dN,ew,dP];iterate 26 (apply aV.is;intro V W kW i;(try simp only[aI,aJ,aM,aE,aF,ag]at i);simp[aL,aw,List.lookup,i,aS,execOp,ay,ag,aN,kW,q,s,t,go_sem];rfl)
  exact agU
 obtain⟨n,rfl⟩:∃n:Nat,c=(n:Int):=⟨c.toNat,af⟩
 have hn:n<B.aZ.length:=af
 have E:=λW k=>u W k n hn
 have HR:Hid (R=decide (B.aZ[n]=B.me)):=ae (by rw[j.aa];simp[t,hn])
 generalize B.aZ[n]=x at *
 clear j u
 refine eM 26 [([],[]),([0],[(5,0)]),([1],[(6,1)]),([2],[]),([2],[]),([2,4],[(9,4)]),([2,5],[(10,5)]),([2,6],[(11,6)]),([2,7],[(12,7)]),([2,3,8],[(8,3),(13,8)]),([2,9],[(7,2),(14,9)]),([10],[(15,10)]),([11],[]),([11,12],[(17,12)]),([11,13],[(18,13)]),([11,14],[(19,14)]),([11],[]),([11,15,16],[(20,15),(21,16)]),([11,17],[(22,17)]),([11],[]),([11,19],[(24,19)]),([11,20],[(25,20)]),([11,21],[(26,21)]),([11,18,22],[(23,18),(27,22)]),([11,23],[(16,11),(28,23)]),([24],[(29,24)])] 30 rfl ak ak ak ak au ?_
 simp only[dR,dN,ew,dP]
 iterate 26 (apply aV.is;intro V W kW i;(try simp only[aI,aJ,aM,aE,aF,ag]at i);simp[aL,aw,List.lookup,i,aS,execOp,ay,ag,aN,kW,q,s,t,E,go_sem];rfl)
 intro V W kW
 conv=>lhs;simp only[aJ,aM,eA,ag,Nat.reduceAdd]
 intro hA
 refine bu.nil ?_
 simp only[bF,Act.put,cO,cM,cL,Nat.reduceAdd,hA]
 go_wp2
 go_ret
 exact⟨fo,kW⟩
def D7(g:Nat)(x:aq)(v:Value)(W:World):Prop:=∃vf i,v=.agg (aA x vf i)/\∀h,aH g none W h->eJ x.f vf h/\ar dJ x.es i h
def Gv(g:Nat)(t:bz)(v:Value)(W:World):Prop:=∃vf i,v=.agg (fW t vf i)/\∀h,aH g none W h->eJ t.e.f vf h/\ar dJ t.e.es i h
def FO(g:Nat)(T:TypeId)(t:bz)(v:Value)(W:World):Prop:=∃h vf j,v=.slice (some ⟨h,0,none⟩) 1 1/\g<=h/\ai W h T (fW t vf j)/\∀i,aH g none W i->eJ t.e.f vf i/\ar dJ t.e.es j i
def IP(B:Nat)(T:TypeId)(l:List bz)(v:Value)(W:World):Prop:=aX B B T cJ l v W
theorem VY(g:Nat)(x:aq):∀v w w',D7 g x v w->Below w.heap.size w w'->D7 g x v w':=by exact agV
theorem Xy(g:Nat)(x:bz):∀v w w',Gv g x v w->Below w.heap.size w w'->Gv g x v w':=by exact agV
theorem agW(g:Nat)(T:TypeId)(x:bz):∀v w w',FO g T x v w->Below w.heap.size w w'->FO g T x v w':=by rintro v w w'⟨i,vf,s,e,hg,hb,h⟩ k;exact⟨i,vf,s,e,hg,hb.below k hb.lt,λj u=>h j ((aH.bg k _ _).tr u)⟩
theorem adx(B:Nat)(T:TypeId)(l:List bz):∀v w w',IP B T l v w->Below w.heap.size w w'->IP B T l v w':=by rintro v w w' h k;exact aX.st h k
theorem Ux{g:Nat}{x:aq}{row:Option Nat}(hr:∀b,row=some b->b<g):∀v w w',D7 g x v w->w.grownBy w' row->D7 g x v w':=by exact agX
theorem VZ{g:Nat}{x:bz}{row:Option Nat}(hr:∀b,row=some b->b<g):∀v w w',Gv g x v w->w.grownBy w' row->Gv g x v w':=by exact agX
theorem ady{g:Nat}{T:TypeId}{x:bz}{row:Option Nat}(hr:∀b,row=some b->b<g):∀v w w',FO g T x v w->w.grownBy w' row->FO g T x v w':=by rintro v w w'⟨g',vf,i,e,hg,hb,h⟩ k;exact⟨g',vf,i,e,hg,hb.grown k (λe=>Vs),λj u=>h j ((aH.row k hr).tr u)⟩
theorem as6{B g:Nat}(hg:g<=B){x:aq}{v:Value}{w:World}(h:um B x v w):D7 g x v w:=by obtain⟨vf,s,e,i,j⟩:=h;exact⟨vf,s,e,λt u=>⟨sU (i.up (u.more hg (λ_ _ _=>aj))),(j.up (aG _) (u.more hg (λ_ _ _=>aj))).ar⟩⟩
theorem Xz:(prog.info? 106).map (λi=>(i.zero,i.size,i.bytes))=some (some (.agg (fW wq (.slice none 0 0) (.slice none 0 0))),9,104):=by kernel_rfl
theorem TTx:gJ prog 75 106 (.agg (fW wq (.slice none 0 0) (.slice none 0 0))) 9 104:=⟨underlying75,Xz,rfl,au⟩
theorem adz{P:Program}{ρ:Operand->Value}{w:World}(s x:Operand)(t ty e:TypeId)(base:Nat)(z:Value)(bytes:Nat)(l:List bz)(T:gJ P t e z 9 bytes)(u:Value)(hs:ρ s=u)(S:aX base base e cJ l u w)
 (g:Nat) (hg:base<=g) (L:∀b,u.ownBlock=some b->b<g) (tx:bz) (v:Value) (hx:ρ x=v) (F:FO g e tx v w)
 (U:(l.length+1)*(bytes+1)<=140737488355328) (H:base<=w.heap.size) :
 ∃y w',(execOp ρ (ay (.call { callee:=.builtin .append,args:=#[s,x],argTypes:=#[t,t] }) ty)).run P w=.ok (.value y) w'/\aX base base e cJ (l++[tx]) y w'/\Below base w w'/\w.grownBy w' u.ownBlock:=by
 obtain⟨css,G,I,M⟩:=S
 obtain⟨A,vf,i,rfl,-,hb,D⟩:=F
 have R:Reads w w.heap.size 9 (some ⟨A,0,none⟩) 1 (fW tx vf i).toList:=⟨rfl,λ_=>⟨A,0,rfl,hb.lt,λj u Q=>by
  rw[fP,hb.cell j];simpa using Q⟩⟩
 have V:∀u∈(fW tx vf i).toList,u.oneCell'=true:=by have C:=D w (aH.rf _ _ _);exact cJ.one (x:=tx) (w:=w) ⟨vf,i,rfl,C.1,C.2⟩
 obtain⟨y,w',hrun,E,B,N,O⟩:=Bb w base t ty e z 9 bytes T u l.length css.flatten G w.heap.size _ 1 1 _ R V U H
 refine⟨y,w',?_,aX.snoc I M E B N (λJ up=>?_),O,B⟩
 ·exact afh
 ·have:=D J (up.more hg (λk hk _ e=>by have:=L k e.symm;omega));exact⟨vf,i,rfl,this.1,this.2⟩
theorem JS(l:List bz)(v:Value)(w:World)(h:ar cJ l v w)(hs:∀t∈l,eD t.e)(hn:l.length<=1000000) :
 Calls prog 153 #[v] w λe w'=>∃R,e=.returned R/\aX w.heap.size w.heap.size 106 cJ l R w'/\K w w':=by
 obtain⟨A,c,rfl,hl,y⟩:=h
 have HS:=ae hs
 clear hs
 have kk:=K.rf w
 go_enter func153,ntmps153
 go_wp2_with fail
 go_loopw [3,5,8] (fun o _ i W=>∃j:Nat,j<=l.length/\i=.int .i64 (j:Int)/\aX w.heap.size w.heap.size 106 cJ (l.take j) o W/\K w W) (fun _ _ i _=>l.length-(intOf i).toNat)
 case atStart=>exact⟨0,af,rfl,Fa,kk⟩
 case round =>
  clear kk;obtain⟨j,hj,rfl,hO,kr⟩:=hrel;by_cases hlt:j<l.length
  ·have ba:(j:Int)<(l.length:Int):=af;obtain⟨b1,Z,cs,rfl,hcl,U,S,d⟩:=dM hl j hlt au;have HT:Hid (l.take (j+1)=l.take j++[l[j]]):=ae Fe;have hst:=HS.aa _ (bW hlt);generalize l[j]=t at *;obtain⟨vf,N,rfl,T,M⟩:=U w (K.rf w);obtain⟨E,F,rfl⟩:=cB T;obtain⟨D,G,rfl⟩:=az M;have HE:Hid (∀W,K w W->cR t.e (.agg (aA t.e (.slice E t.e.f.length F) (.slice D t.e.es.length G))) W):=ae λW k=>⟨_,_,rfl,dB _ _ _ _ T k,aW M k⟩
   have S:∀W,K w W->W.cell? ⟨b1,Z+j*9,none⟩=some (.int .i64 t.e.kind):=S;have d:∀W,K w W->∀i,i<9->W.cell? ⟨b1,Z+j*9+i,none⟩=(fW t (.slice E t.e.f.length F) (.slice D t.e.es.length G))[i]?:=λW k i hi=>(d W k i hi).trans Array.getElem?_toList
   have gA:(l.take j).length<=1000000:=aU;have X:=hO.blk;clear U hcl T M;have I:=ai.new wr 106 (fW t (.slice E t.e.f.length F) (.slice D t.e.es.length G));have kA:K wr (wr.alloc (.cells (fW t (.slice E t.e.f.length F) (.slice D t.e.es.length G)) 106)):=(K.rf wr).al _;have lN:wr.heap.size<(wr.alloc (.cells (fW t (.slice E t.e.f.length F) (.slice D t.e.es.length G)) 106)).heap.size:=aj;go_upto_region 5 with (fail);have Y:=hO.st kA;generalize wr.alloc _=w5 at *;have ou:=kr.size;generalize wr.heap.size=s at I lN ou X⊢;generalize Value.slice E t.e.f.length F=vf at *;generalize Value.slice D t.e.es.length G=N at *;have k5:=kr.tr kA;obtain⟨C,B⟩:∃C:World->Prop,C=λW=>K w W/\s<W.heap.size/\ai W s 106 (fW t vf N):=⟨_,rfl⟩
   have hg:∀W W',C W->Below W.heap.size W W'->C W':=by subst B;rintro W W'⟨Q,L,J⟩ hb;exact⟨Q.tr hb,bB L hb.size,J.below hb J.lt⟩
   have hc0:C w5:=by rw[B];exact⟨k5,I.lt,I⟩
   have H:∀b,u3.ownBlock=some b->b<s:=λb hb=>(X b hb).2
   clear d S;refine S5 8 C (λW=>aX w.heap.size w.heap.size 106 cJ (l.take j) u3 W) (λ_=>True) (λW W'=>W.grownBy W' u3.ownBlock) [ag u3,
    ag (.pointer (some ⟨s,0,none⟩)),
    ag (.agg (aA t.e vf N)),
    D7 s t.e,
    ag (.pointer (some ⟨s,8,none⟩)),
    ag (.bool t.asked),
    Gv s t,
    FO s 106 t,
    IP w.heap.size 106 (l.take j++[t]),
    IP w.heap.size 106 (l.take j++[t])]
    [([],[]),([],[]),([1],[(13,1)]),([2],[(14,2)]),([],[]),([4],[(16,4)]),([3,5],[(15,3),(17,5)]),([6],[(18,6)]),([0,7],[(12,0),(19,7)]),([8],[(20,8)])] 23 rfl ak ak ak au hg (λW W' h k=>h.st k) (λ_ _ h _=>h) tS (Y.st (Below.drew (aN _ _))) ?st ?st2 ?ow ?_
   case st =>
    simp only[aI]
    and_intros
    all_goals first|exact jN _|exact VY _ _|exact Xy _ _|exact agW _ _ _|exact adx _ _ _|simp
   case st2 =>
    simp only[List.zipIdx_cons,List.zipIdx_nil,aI,fP,Nat.reduceAdd]
    and_intros
    all_goals first|exact .inl rfl|exact .inr (λ_ _ _ h _=>h)|exact .inr (Ux H)|exact .inr (VZ H)|exact .inr (ady H)|simp
   case ow =>
    simp only[nZ]
    and_intros
    all_goals try trivial
    all_goals
     simp only[Nat.reduceEqDiff,if_false,Nat.reduceAdd]
    all_goals
     first
     | (intro V w' y hD hp
        have Gw:aX w.heap.size w.heap.size 106 cJ (l.take j) u3 w':=hD
        simp only[aI,aE,aF,ag]at hp
        rw[B]at y
        obtain⟨kw,eC,O⟩:=y)
     | (intro V w' y hp
        rw[B]at y
        obtain⟨kw,eC,O⟩:=y
        have q:=O.cell
        try simp only[aI,aE,aF,ag]at hp
        try simp[aL,aw,List.lookup,hp,aE,aF,aS,execOp,ay,ag,undef,aN,q,go_sem])
     | skip
    ·exact agY
    ·exact V0
    ·exact agZ
    ·obtain⟨L,gN,-⟩:=hp;obtain⟨R,w'',hrun,Q,J,h3⟩:=adz (P:=prog) (ρ:=aw [(12,0),(19,7)] _ V) (.tmp 12) (.tmp 19) 75 75 106 w.heap.size _ 104 (l.take j) TTx u3 L Gw s ou H t (V 7) rfl gN af af;rw[hrun];refine⟨Q,?_,trivial,h3⟩;rw[B];exact⟨kw.trans J,V1,O.grown h3 (λe=>by have:=H s e.symm;omega)⟩
   intro V W y _ hp;have h9:=hp 9 aj;simp only[aE,aF]at h9;rw[B]at y;have kW:=y.1;have Me:aX w.heap.size w.heap.size 106 cJ (l.take (j+1)) (V 9) W:=by rw[HT.aa];exact h9
   clear hp y hg hc0 B h9 Y hO I;simp only[bF,Act.put,cO,cM,cL];generalize V 9=v9 at *;go_wp2;go_roundw
   case rel=>exact⟨j+1,af,bO,Me,kW⟩
   case measure=>simp[intOf];omega
  ·exact ag0
theorem as7{l:List bz}{a:av}{k:Nat}(hk:k<l.length)(h:nF a l[k]=true)(i:∀t∈l.take k,nF a t=false):ju l a=some k:=by
 unfold ju;rw[List.findIdx?_eq_some_iff_getElem];exact⟨hk,h,λj s=>by
  have:=i l[j] (List.mem_take_iff_getElem.2 ⟨j,af,rfl⟩);simp[this]⟩
theorem ari{l:List bz}{a:av}(h:∀t∈l,nF a t=false):ju l a=none:=by unfold ju;rw[List.findIdx?_eq_none_iff];exact h
theorem as8{l:List bz}{a:av}{k:Nat}(h:ju l a=some k):ph l a=(k:Int):=by unfold ph;rw[h]
theorem arj{l:List bz}{a:av}(h:ju l a=none):ph l a=-1:=by unfold ph;rw[h]
theorem auT(a:av)(t:bz):nF a t=(decide (t.e.br=a.1)&&decide (t.e.life=a.2.1)&&decide (t.e.cI=a.2.2)):=by obtain⟨h,i,j⟩:=a;unfold nF nE;rw[Bool.eq_iff_iff];simp[and_assoc]
theorem ap5(t:bz)(a:av)(v:Value)(g:Nat)(w:World)(h:Mu t v w)(hg:ai w g 46 #[.int .i64 a.1,.int .u64 (a.2.1:Int),.int .u64 (a.2.2:Int)]) :
 Calls prog 167 #[v,.pointer (some ⟨g,0,none⟩)] w λe w'=>e=.returned (.bool (nF a t))/\K w w':=by
 obtain⟨vf,G,rfl,y,i⟩:=h
 obtain⟨A,c,rfl⟩:=cB y
 obtain⟨D,d,rfl⟩:=az i
 clear y i
 have j:=ae (auT a t)
 have q:=hg.cells
 have F:=λo=>(K.rf w).al o
 obtain⟨B,C,E⟩:=a
 obtain⟨⟨k,b,l,s,cl,u,f,es⟩,asked⟩:=t
 simp only at q j⊢
 generalize nF (B,C,E) ⟨⟨k,b,l,s,cl,u,f,es⟩,asked⟩=R at *
 go_enter func167,ntmps167
 go_wp2
 all_goals
  go_ret
  refine⟨?_,(K.rf w).al _⟩
  rw[j.aa]
  show Ending.returned (.bool _)=Ending.returned (.bool _)
  clear q F
  first|(simp_all;done)|(simp_all;omega)|(congr 2;rw[Bool.eq_iff_iff];simp_all;omega)
theorem an7(A:Option Addr)(c:Nat)(l:List bz)(a:av)(g:Nat)(w:World)(h:wL cJ l A w)(O:l.length<=1000000)(hg:ai w g 46 #[.int .i64 a.1,.int .u64 (a.2.1:Int),.int .u64 (a.2.2:Int)]) :
 Calls prog 166 #[.slice A l.length c,.func (Fn.func 167) #[] #[.pointer (some ⟨g,0,none⟩)]] w λe w'=>e=.returned (.int .i64 (ph l a))/\K w w':=by
 have kk:=K.rf w
 go_enter func166,ntmps166
 go_wp2_with fail
 go_loopw [5,8] (fun _ i wr=>∃k:Nat,k<=l.length/\i=.int .i64 (k:Int)/\Hid (∀t∈l.take k,nF a t=false)/\K w wr) (fun _ i _=>l.length-(intOf i).toNat)
 case atStart=>exact⟨0,af,rfl,ae aj,kk⟩
 case round =>
  clear kk;obtain⟨k,hk,rfl,hall,kr⟩:=hrel;by_cases hlt:k<l.length
  ·have L:(k:Int)<(l.length:Int):=af;obtain⟨C,u,cs,rfl,I,y,s,d⟩:=dM h k hlt au;have F:Hid (nF a l[k]=false->∀t∈l.take (k+1),nF a t=false):=by exact Vx
   have H:Hid (nF a l[k]=true->ph l a=(k:Int)):=ae λh=>as8 (as7 hlt h hall.aa)
   generalize l[k]=t at *;obtain⟨vf,D,rfl,E,B⟩:=y wr kr;have s:∀W,K w W->W.cell? ⟨C,u+k*9,none⟩=some (.int .i64 t.e.kind):=s;have d:∀W,K w W->∀i,i<9->W.cell? ⟨C,u+k*9+i,none⟩=(fW t vf D)[i]?:=λW j M=>λJ=>(d W j M J).trans Array.getElem?_toList
   clear y I;go_wp2_with fail
   refine (ap5 t a _ g wr ⟨vf,D,rfl,E,B⟩ (hg.below kr hg.lt)).mono ?_;rintro e N⟨rfl,G⟩;have kW:=kr.tr G;clear d s E B;cases hx:nF a t
   ·have pF:=ae (F.aa hx);exact Iu
   ·have HE:=ae (H.aa hx);exact V2
  ·have L:¬(k:Int)<(l.length:Int):=af;have HE:Hid (ph l a=-1):=ae (by
    have:=hall.aa;rw[eT af]at this;exact arj (ari this))
   exact K0
theorem Oc(l:List bz)(a:av)(v:Value)(w:World)(h:ar cJ l v w)(B:l.length<=1000000) :
 Calls prog 82 #[v,cN a] w λe w'=>e=.returned (.int .i64 (ph l a))/\K w w':=by
 obtain⟨A,c,rfl,t,-⟩:=h
 have j:=ai.new w 46 #[.int .i64 a.1,.int .u64 (a.2.1:Int),.int .u64 (a.2.2:Int)]
 have i:K w (w.alloc (.cells #[.int .i64 a.1,.int .u64 (a.2.1:Int),.int .u64 (a.2.2:Int)] 46)):=(K.rf w).al _
 have u:=DE t i
 go_enter func82,ntmps82
 go_wp2_with fail
 generalize w.alloc _=y at *
 refine (an7 A c l a _ y u B j).mono ?_
 rintro e C⟨rfl,s⟩
 go_wp2
 go_ret
 exact⟨rfl,i.tr s⟩
theorem auU(l:List bz)(a:av):y6 l a=match ju l a with|none=>-1|some k=>if (l[k]?.map bz.asked)=some true then -1 else (k:Int):=by
 unfold y6 qR
 cases ju l a with
 | none=>rfl
 | some k =>
  by_cases h:(l[k]?.map bz.asked)=some true
  ·simp[h]
  ·simp[h]
theorem TL(l:List bz)(a:av)(v:Value)(w:World)(h:ar cJ l v w)(Q:l.length<=1000000) :
 Calls prog 154 #[v,cN a] w λe w'=>e=.returned (.int .i64 (y6 l a))/\K w w':=by
 have C:=h
 obtain⟨A,c,rfl,O,-⟩:=h
 have F:K w (w.alloc (.cells #[.int .i64 a.1,.int .u64 (a.2.1:Int),.int .u64 (a.2.2:Int)] 46)):=(K.rf w).al _
 have y:=ae (auU l a)
 have S:=ae λW (i:K w W)=>Oc l a _ W (aW C i) Q
 have s:Hid (ph l a=match ju l a with|none=>-1|some k=>(k:Int)):=ae (by unfold ph;cases ju l a <;> rfl)
 have H:=ae λk h=>@J0 l a k h
 generalize y6 l a=R at *
 generalize ph l a=I at *
 clear C
 go_enter func154,ntmps154
 go_wp2_with fail
 generalize w.alloc _=M at *
 refine (S.aa M F).mono ?_
 rintro e u⟨rfl,U⟩
 have i:=F.tr U
 cases hs:ju l a with
 | none =>
  obtain rfl:I=-1:=by rw[s.aa,hs]
  obtain rfl:R=-1:=by rw[y.aa,hs]
  go_wp2;go_ret;exact⟨rfl,i⟩
 | some k =>
  obtain rfl:I=(k:Int):=by rw[s.aa,hs]
  obtain⟨t,B,-,-⟩:=H.aa k hs;obtain⟨hk,D⟩:=List.getElem?_eq_some_iff.1 B;have G:Hid (R=if t.asked=true then -1 else (k:Int)):=ae (by rw[y.aa,hs];simp[B]);obtain⟨J,N,cs,rfl,L,j,T,d⟩:=dM O k hk au;rw[D]at j;obtain⟨vf,V,rfl,-,-⟩:=j u i;have E:u.cell? ⟨J,N+k*9+8,none⟩=some (.bool t.asked):=d u i 8 au;have X:(k:Int)<(l.length:Int):=af;have Y:(0:Int)<=(k:Int):=af;clear d T j L B D hs y s H;cases ha:t.asked
  ·obtain rfl:R=(k:Int):=by rw[G.aa,ha];rfl
   rw[ha]at E;go_wp2;go_ret;exact⟨rfl,i⟩
  ·obtain rfl:R=-1:=by rw[G.aa,ha];rfl
   rw[ha]at E;go_wp2;go_ret;exact⟨rfl,i⟩
theorem acK(x:aq)(v:Value)(w:World)(h:cR x v w)(A:cK x) :
 Calls prog 156 #[v] w λe w'=>e=.returned (.bool (qX x))/\K w w':=by
 have s:=ae λW (y:K w W)=>NR x v W (Lh h y) A
 have HB:Hid (qX x=decide (3000<((nY x).length:Int))):=ae (by
  unfold qX ajT nY;rw[decide_eq_decide];omega)
 obtain⟨vf,u,rfl,-,-⟩:=h
 have j:K w (w.alloc (.cells (aA x vf u) 102)):=(K.rf w).al _
 go_enter func156,ntmps156
 go_wp2_with fail
 generalize w.alloc _=t at *
 refine (s.aa t j).mono ?_
 rintro e E⟨D,rfl,i,B⟩
 obtain⟨C,c2,rfl,-⟩:=eN i
 clear i
 go_wp2
 go_ret
 exact⟨E7,j.tr B⟩
theorem acL(l:List bz)(t:bz)(v u:Value)(w:World)(h:ar cJ l v w)(ht:Mu t u w)(hfit:cK t.e)(hs:eD t.e)(hl:∀s∈l,eD s.e)(hlen:l.length<=1000000) :
 Calls prog 81 #[v,u] w λe w'=>∃v',e=.returned (.tuple #[v',.int .i64 (ui l t).2])/\aX w.heap.size w.heap.size 106 cJ (ui l t).1 v' w'/\K w w':=by
 obtain⟨vf,ve,rfl,hf,he⟩:=ht
 obtain⟨Q,S,rfl⟩:=cB hf
 obtain⟨O,T,rfl⟩:=az he
 have HE:Hid (∀W,K w W->cR t.e (.agg (aA t.e (.slice Q t.e.f.length S) (.slice O t.e.es.length T))) W):=ae λW k=>⟨_,_,rfl,dB _ _ _ _ hf k,aW he k⟩
 have HV:=ae (ajw h)
 obtain⟨A,c,rfl⟩:=az h
 clear hf he h
 have N:Hid (ui l t=if ph l (nE t.e)<0 then (if bP t.e=false then (l,110)else if 8<=l.length then (l,171)else if qX t.e then (l,172)else (l++[t],0))else (l,170)):=ae (by
  unfold ui ph
  cases ju l (nE t.e)with
  | none=>simp
  | some k =>
   simp only[Option.isSome_some,if_true];rw[if_neg af])
 generalize ui l t=R at *
 have HS:=ae hs
 have HL:=ae hl
 have HF:=ae hfit
 clear hs hl hfit
 have G:=ai.new w 106 (fW t (.slice Q t.e.f.length S) (.slice O t.e.es.length T))
 have k1:K w (w.alloc (.cells (fW t (.slice Q t.e.f.length S) (.slice O t.e.es.length T)) 106)):=(K.rf w).al _
 go_enter func81,ntmps81
 go_wp2
 go_step3
 go_wp2_with fail
 generalize w.alloc _=E at *
 generalize w.heap.size=L at G⊢
 generalize Value.slice Q t.e.f.length S=vf at *
 generalize Value.slice O t.e.es.length T=ve at *
 have qx:=G.cells
 refine (JS l _ E (HV.aa _ k1) HL.aa hlen).mono ?_
 rintro e w2⟨y,rfl,i,k2⟩
 have bw:=k1.tr k2
 go_wp2_with fail
 go_step3
 go_wp2_with fail
 refine (Oc l (nE t.e) _ w2 (HV.aa _ bw) hlen).mono ?_
 rintro e w3⟨rfl,k3⟩
 have j:=k1.size
 replace i:=i.st k3
 replace bw:=bw.tr k3
 have H:=k2.tr k3
 have HW:Hid (aX w.heap.size w.heap.size 106 cJ l y w3):=ae (aX.low (aX.floor i j) j)
 generalize hI:ph l (nE t.e)=I at N⊢
 clear hI
 by_cases hneg:I<0
 rotate_left
 ·have HQ:Hid (R=(l,170)):=ae (by rw[N.aa,if_neg hneg]);clear i;exact Fg
 have ir:Hid (R=if bP t.e=false then (l,110)else if 8<=l.length then (l,171)else if qX t.e then (l,172)else (l++[t],0)):=ae (by rw[N.aa,if_pos hneg])
 clear N
 go_wp2_with fail
 refine (JU t.e _ w3 (HE.aa _ bw)).mono ?_
 rintro e w4⟨rfl,X⟩
 replace i:=i.st X
 replace bw:=bw.tr X
 replace H:=H.tr X
 cases hok:bP t.e
 ·have HQ:Hid (R=(l,110)):=ae (by rw[ir.aa,if_pos hok]);have HW:Hid (aX w.heap.size w.heap.size 106 cJ l y w4):=ae (aX.low (aX.floor i j) j);rw[EX hok];clear i;exact Fg
 rw[Hz hok]
 by_cases h8:8<=l.length
 ·have wI:(8:Int)<=(l.length:Int):=af;have HQ:Hid (R=(l,171)):=ae (by rw[ir.aa,if_neg (by rw[hok];decide),if_pos h8]);have HW:Hid (aX w.heap.size w.heap.size 106 cJ l y w4):=ae (aX.low (aX.floor i j) j);clear i;exact Fg
 have wI:¬(8:Int)<=(l.length:Int):=af
 go_wp2_with fail
 refine (acK t.e _ w4 (HE.aa _ bw) HF.aa).mono ?_
 rintro e J⟨rfl,k5⟩
 replace i:=i.st k5
 replace bw:=bw.tr k5
 replace H:=H.tr k5
 cases hb:qX t.e
 rotate_left
 ·have HQ:Hid (R=(l,172)):=ae ag1;have HW:Hid (aX w.heap.size w.heap.size 106 cJ l y J):=ae (aX.low (aX.floor i j) j);clear i;exact Fg
 have HQ:Hid (R=(l++[t],0)):=ae ag1
 go_upto_region 10 with (fail)
 have di:=G.below H G.lt
 have Z:=i.blk
 have ou:=H.size
 have hgb:=aG J.heap.size
 have gW:=G.lt
 obtain⟨B,akE⟩:∃B,B=J.heap.size:=⟨_,rfl⟩
 rw[<- akE]at Z ou hgb
 have ay0:B<=J.heap.size:=af
 clear akE hgb
 obtain⟨C,F⟩:∃C:World->Prop,C=λW=>K w W/\B<=W.heap.size/\ai W L 106 (fW t vf ve):=⟨_,rfl⟩
 have hg:∀W W',C W->Below W.heap.size W W'->C W':=by subst F;rintro W W'⟨h1,Y,M⟩ hb;exact⟨h1.tr hb,bq Y hb.size,M.below hb M.lt⟩
 have hc0:C J:=by rw[F];exact⟨bw,ay0,di⟩
 have U:∀b,y.ownBlock=some b->b<B:=λb hb=>(Z b hb).2
 have b9:=i
 refine S5 8 C (λW=>aX E.heap.size E.heap.size 106 cJ l y W) (λ_=>True) (λW W'=>W.grownBy W' y.ownBlock) [ag (y),
  ag (.pointer (some ⟨L,0,none⟩)),
  ag (.agg (aA t.e vf ve)),
  D7 B t.e,
  ag (.pointer (some ⟨L,8,none⟩)),
  ag (.bool t.asked),
  Gv B t,
  FO B 106 t,
  IP E.heap.size 106 (l++[t]),
  IP E.heap.size 106 (l++[t])]
  [([],[]),([],[]),([1],[(29,1)]),([2],[(30,2)]),([],[]),([4],[(32,4)]),([3,5],[(31,3),(33,5)]),([6],[(34,6)]),([0,7],[(28,0),(35,7)]),([8],[(36,8)])] 39 rfl ak ak ak au hg (λW W' h k=>h.st k) (λ_ _ h _=>h) tS (b9.st (Below.drew (aN _ _))) ?st ?st2 ?ow ?_
 case st =>
  simp only[aI]
  and_intros
  all_goals first|exact jN _|exact VY _ _|exact Xy _ _|exact agW _ _ _|exact adx _ _ _|simp
 case st2 =>
  simp only[List.zipIdx_cons,List.zipIdx_nil,aI,fP,Nat.reduceAdd]
  and_intros
  all_goals first|exact .inl rfl|exact .inr (λ_ _ _ h _=>h)|exact .inr (Ux U)|exact .inr (VZ U)|exact .inr (ady U)|simp
 case ow =>
  simp only[nZ]
  and_intros
  all_goals try trivial
  all_goals
   simp only[Nat.reduceEqDiff,if_false,Nat.reduceAdd]
  all_goals
   first
   | (intro V w' D hD hp
      have Gw:aX E.heap.size E.heap.size 106 cJ l y w':=hD
      simp only[aI,aE,aF,ag]at hp
      rw[F]at D
      obtain⟨kw,eC,iz⟩:=D)
   | (intro V w' D hp
      rw[F]at D
      obtain⟨kw,eC,iz⟩:=D
      have q:=iz.cell
      try simp only[aI,aE,aF,ag]at hp
      try simp[aL,aw,List.lookup,hp,aE,aF,aS,execOp,ay,ag,undef,aN,q,go_sem])
   | skip
  ·refine (NX t.e _ w' (HE.aa _ kw) HS.aa).mono ?_;exact ag2
  ·exact V0
  ·exact agZ
  ·obtain⟨Y,gN,-⟩:=hp;obtain⟨v',w'',hrun,h1,M,h3⟩:=adz (P:=prog) (ρ:=aw [(28,0),(35,7)] _ V) (.tmp 28) (.tmp 35) 75 75 106 E.heap.size _ 104 l TTx y Y Gw B ou U t (V 7) rfl gN af af;rw[hrun];refine⟨h1,?_,trivial,h3⟩;rw[F];exact⟨kw.trans (M.mono j),V1,iz.grown h3 (λe=>by have:=Z L e.symm;omega)⟩
 intro V W D _ hp
 have h9:=hp 9 aj
 simp only[aE,aF]at h9
 rw[F]at D
 have kW:=D.1
 have HW:Hid (aX w.heap.size w.heap.size 106 cJ (l++[t]) (V 9) W):=ae (aX.low (aX.floor h9 j) j)
 clear hp D hg hc0 F h9 b9 i G qx di
 simp only[bF,Act.put,cO,cM,cL]
 generalize V 9=v9 at *
 go_wp2
 try rw[gS]
 go_ret2
 exact⟨_,jL,Fh,kW⟩
theorem ag3(t:bz)(i:t.e.f=[])(h:t.e.es=[])(w:World):Mu t (.agg (fW t (.slice none 0 0) (.slice none 0 0))) w :=
 ⟨_,_,rfl,by rw[i];exact⟨none,0,rfl,Reads.nil _ _ _ _⟩,by rw[h];exact iu _ _⟩
theorem auV{a:av}{c:Int}(i:df a)(j:bU c):cK (uk a c):=⟨by simp[uk,bU],i.1,j,i.2.1,i.2.2,Iz,Iz,Iz⟩
theorem ap6(l:List bz)(a:av)(c:Int)(v:Value)(w:World)(h:ar cJ l v w)(F:df a)(D:bU c)(B:∀s∈l,eD s.e)(H:l.length<=1000000) :
 Calls prog 35 #[v,cN a,.int .i64 c] w λe w'=>∃t,e=.returned (.tuple #[t,.int .i64 (vV l a c).2])/\aX w.heap.size w.heap.size 106 cJ (vV l a c).1 t w'/\K w w':=by
 have L:=ae (ajw h)
 have u:=ae λW (G:K w W)=>acL l ⟨uk a c,false⟩ v _ W (aW h G) (ag3 ⟨uk a c,false⟩ rfl rfl W) (auV F D) (by simp[eD,uk]) B H
 obtain⟨A,d,rfl⟩:=az h
 clear h
 have i:K w (w.alloc (.cells #[.int .i64 a.1,.int .u64 (a.2.1:Int),.int .u64 (a.2.2:Int)] 46)):=(K.rf w).al _
 unfold vV
 generalize ui l ⟨uk a c,false⟩=R at *
 go_enter func35,ntmps35
 go_wp2_with fail
 generalize w.alloc _=C at *
 refine (u.aa C i).mono ?_
 rintro e J⟨I,rfl,j,y⟩
 have E:=ae (aX.low (aX.floor j i.size) i.size)
 clear j
 go_wp2
 go_ret2
 exact⟨_,rfl,E.aa,i.tr y⟩
theorem as9(l:List bz)(x:aq)(v u:Value)(w:World)(h:ar cJ l v w)(E:cR x u w)(L:cK x)(M:eD x)(G:∀s∈l,eD s.e)(I:l.length<=1000000) :
 Calls prog 37 #[v,u] w λe w'=>∃C,e=.returned (.tuple #[C,.int .i64 (s6 l x).2])/\aX w.heap.size w.heap.size 106 cJ (s6 l x).1 C w'/\K w w':=by
 obtain⟨vf,j,rfl,D,y⟩:=E
 have J:=ae λW (t:K w W)=>acL l ⟨x,true⟩ v (.agg (fW ⟨x,true⟩ vf j)) W (aW h t) ⟨vf,j,rfl,dB _ _ _ _ D t,aW y t⟩ L M G I
 obtain⟨A,d,rfl⟩:=az h
 clear h D y
 have i:K w (w.alloc (.cells (aA x vf j) 102)):=(K.rf w).al _
 unfold s6
 generalize ui l ⟨x,true⟩=R at *
 go_enter func37,ntmps37
 go_wp2_with fail
 generalize w.alloc _=F at *
 refine (J.aa F i).mono ?_
 rintro e Q⟨O,rfl,B,N⟩
 have H:=ae (aX.low (aX.floor B i.size) i.size)
 clear B
 go_wp2
 go_ret2
 exact⟨_,rfl,H.aa,i.tr N⟩
theorem S9{α:Type}(n:Nat):∀(css:List (List α)),(∀cs∈css,cs.length=n)->∀k,(css.take k).flatten=css.flatten.take (k*n)
 | [],_,k=>aj
 | c :: css,h,0=>aj
 | c :: css,h,k+1=>by have hc:=h c aj;have ih:=S9 n css (λx hx=>h x Ds) k;exact afr
theorem Ta{α:Type}(n:Nat):∀(css:List (List α)),(∀cs∈css,cs.length=n)->∀k,(css.drop k).flatten=css.flatten.drop (k*n)
 | [],_,k=>aj
 | c :: css,h,0=>aj
 | c :: css,h,k+1=>by have hc:=h c aj;have i:=Ta n css (λx hx=>h x Ds) k;rw[ew,List.flatten_cons,i,List.drop_append,show List.drop ((k+1)*n) c=[]from List.drop_eq_nil_of_le OL,hc,show (k+1)*n-n=k*n by rw[Nat.succ_mul];omega,aJ]
theorem ai.ajE:∀(vs:List Value) {w:World} {g o:Nat} {e:TypeId} {cur:Array Value},ai w g e cur->ai (w.setCells g o vs) g e (Lib.lay cur o vs)
 | [],_,_,_,_,_,h=>h
 | v :: r,_,_,o,_,_,h=>ai.ajE r (o:=o+1) (h.aR o v)
theorem abq(g:Nat):∀(vs:List Value) (o:Nat) (w:World),w.grownBy (w.setCells g o vs) (some g)
 | [],_,w=>⟨rfl,rfl,rfl,aG _,λ_ _ _=>rfl⟩
 | v :: r,o,w=>by have h:=abq g r (o+1) (w.setCell ⟨g,o,none⟩ v);exact⟨h.os,h.tape,h.output,by have i:=h.size;rw[show (w.setCell ⟨g,o,none⟩ v).heap.size=w.heap.size by simp]at i;exact i,λk hk hne=>(h.block k pc hne).trans (Below.heap_setCell w ⟨g,o,none⟩ v k Vz)⟩
theorem aoJ{P:Program}{w:World}{t e:TypeId}{z:Value}{j:Array Value}(B:P.underlying t=some (.slice e))(C:∀w,(zeroValue e).run P w=.ok z w)(g o:Nat)(hb:ai w g e j)(hl:o+z.cells.size<=j.size)(s:∀u∈z.cells.toList,u.oneCell'=true) :
 ∃w',(∀ty c,(Builtin.clear_ #[t] ty #[.slice (some ⟨g,o,none⟩) 1 c]).run P w=.ok (.tuple #[]) w')/\ai w' g e (j.toList.take o++z.cells.toList++j.toList.drop (o+z.cells.size)).toArray/\w.grownBy w' (some g):=by
 have A:=run_storeCells_at P g o e z.cells.toList 0 j w hb Iy s
 simp only[Nat.add_zero,Array.length_toList]at A
 have E:(Builtin.zeroCells z.cells 1).toList=z.cells.toList:=by
  simp[Builtin.zeroCells];apply List.ext_getElem
  ·simp
  ·intro i s y;simp at s y;simp[Nat.mod_eq_of_lt y,getElem!_pos,y]
 refine⟨_,λty c=>?_,setRow_heap w g j _ e _ hb,⟨rfl,rfl,rfl,aj,λk hk D=>setRow_other w g k _ (λe=>D Fb)⟩⟩
 simp[Builtin.clear_,run_underlying B,C,E,A]
theorem axh(W:World):(zeroValue 106).run prog W=.ok (.agg (fW wq (.slice none 0 0) (.slice none 0 0))) W:=by kernel_rfl
theorem apc(l:List bz)(base k j:Nat)(hj:j=k+1)(v:Value)(w:World)(h:aX base base 106 cJ l v w)(hk:k<l.length)(hlen:l.length<=1000000) :
 Calls prog 188 #[v,.int .i64 k,.int .i64 j] w λe w'=>∃Y,e=.returned Y/\aX base base 106 cJ (l.eraseIdx k) Y w'/\w.grownBy w' v.ownBlock:=by
 obtain⟨css,H,hcl,E⟩:=h
 have G:∀cs∈css,cs.length=9:=(E w (aH.rf _ _ _)).lens
 have U:=(E w (aH.rf _ _ _)).ones
 rcases H.2 with ⟨N,xY⟩|⟨g,cap,cur,rfl,g1,S,g3,g4,I,B⟩
 ·omega
 have I:cur.size=cap*9:=I
 have B:cur.toList.take (l.length*9)=css.flatten:=B
 have hb:ai w g 106 cur:=S
 have cC:css.flatten.length=l.length*9:=H.1
 obtain⟨news,C⟩:∃news,news=css.flatten.drop (j*9):=⟨_,rfl⟩
 obtain⟨m,hm⟩:∃m,m=l.length-j:=⟨_,rfl⟩
 have L:news.length=m*9:=by rw[C,List.length_drop,cC];omega
 have V:∀t u,news[t]?=some u->cur[j*9+t]?=some u:=by intro t u hu;rw[C,List.getElem?_drop]at hu;have:=(List.getElem?_eq_some_iff.1 hu).1;rw[<- B,List.getElem?_take_of_lt af,Array.getElem?_toList]at hu;exact hu
 obtain⟨A,hA,hsrc⟩:∃A:Addr,(if cap=j then (some ⟨g,0,none⟩:Option Addr)else some ⟨g,j*9,none⟩)=some A/\Hid (∀t u,news[t]?=some u->w.drew.cell? (A.add t)=some u):=by
  by_cases h:cap=j
  ·refine⟨⟨g,0,none⟩,tQ,λt u hu=>?_⟩;have N:news.length=0:=af;rw[List.length_eq_zero_iff.1 N]at hu;simp at hu
  ·refine⟨⟨g,j*9,none⟩,tQ,λt u hu=>?_⟩;rw[Addr.add_lit];exact (hb.cell _).trans (V t u hu)
 have s1:Hid (news.length=m*9):=L
 have s2:Hid (∀u∈news,u.oneCell'=true):=λu hu=>U u (List.mem_of_mem_drop (by rw[<- C];exact hu))
 have s3:Hid (∀t,t<news.length->(w.drew.cell? ⟨g,0+k*9+t,none⟩).isSome=true/\w.drew.frozen? ⟨g,0+k*9+t,none⟩=false):=by intro t O;refine⟨?_,hb.frozen _⟩;show (w.cell? _).isSome=true;rw[hb.cell,Array.getElem?_eq_getElem af];rfl
 obtain⟨y,D⟩:∃y,y=w.drew.setCells g (0+k*9) news:=⟨_,rfl⟩
 have aO:ai y g 106 (Lib.lay cur (0+k*9) news):=by rw[D];exact ai.ajE news hb.drew
 have i:w.drew.grownBy y (some g):=by rw[D];exact abq g news _ _
 have lO:(Lib.lay cur (0+k*9) news).size=cap*9:=by rw[Lib.lay_size,I]
 obtain⟨J,ayF,X,s⟩:=aoJ (P:=prog) (w:=y) (t:=75) (e:=106) underlying75 axh g ((l.length-1)*9) aO (by rw[lO];show (l.length-1)*9+9<=_;omega) av7
 have W:Hid (aX base base 106 cJ (l.eraseIdx k) (.slice (some ⟨g,0,none⟩) (l.length-1) cap) J/\w.grownBy J (some g)):=by
  have R:w.grownBy J (some g):=⟨s.os.trans i.os,s.tape.trans i.tape,s.output.trans i.output,bq i.size s.size,λk hk Q=>(s.block k (bB hk i.size) Q).trans (i.block k hk Q)⟩;have F:(l.eraseIdx k).length=l.length-1:=by rw[List.length_eraseIdx,if_pos hk]
  have T:(css.eraseIdx k).length=l.length-1:=by rw[List.length_eraseIdx,if_pos (by omega)];omega
  refine⟨⟨css.eraseIdx k,⟨?_,.inr ⟨g,cap,_,by rw[F],g1,X,af,g4,?_,?_⟩⟩,by rw[T,F],λw' u=>?_⟩,R⟩
  ·rw[F,AQ 9 _ (λcs h=>G cs (List.mem_of_mem_eraseIdx h)),T];rfl
  ·have h9:(Value.agg (fW wq (.slice none 0 0) (.slice none 0 0))).cells.size=9:=rfl;simp only[List.size_toArray,cT,od,List.length_drop,Array.length_toList,lO,h9];show _=cap*9;omega
  ·show List.take ((l.eraseIdx k).length*9) _=_;rw[F,dG,List.take_append_of_le_length av8,List.take_take,Nat.min_self,List.eraseIdx_eq_take_drop_succ,List.flatten_append,S9 9 css G,Ta 9 css G,<- hj,<- C];apply List.ext_getElem?;intro t;by_cases O:t<(l.length-1)*9
   ·rw[List.getElem?_take_of_lt O,Array.getElem?_toList,Lib.lay_get? _ _ _ _ af];by_cases h1:t<k*9
    ·rw[if_neg af,List.getElem?_append_left V3,List.getElem?_take_of_lt h1,<- B,List.getElem?_take_of_lt af,Array.getElem?_toList]
    ·rw[if_pos af,List.getElem?_append_right V3,od];congr 1;omega
   ·rw[List.getElem?_eq_none V3,List.getElem?_eq_none (by rw[cT,od];omega)]
  ·have Z:=E w' (aH.tr (aH.fM R base) u);rw[List.eraseIdx_eq_take_drop_succ,List.eraseIdx_eq_take_drop_succ];exact (Z.take k).append (Z.drop (k+1))
 have hW:Hid (y=w.drew.setCells g (0+k*9) news):=D
 obtain⟨M,hi0,hz0⟩:=Option.map_eq_some_iff.1 Xz
 have hz1:M.size=9:=by injection hz0 with _ h;injection h
 have hlm:k+m=l.length-1:=af
 have hkc:k<=cap:=af
 have hkj:k≠j:=af
 have aDi:k<=j:=af
 have hjl:j<=l.length:=af
 have hmj:l.length-j=m:=hm.symm
 have uz:l.length-(l.length-1)=1:=af
 have aDj:¬(k:Int)=(j:Int):=af
 clear hm hj
 clear D hcl E G U H B hb cC C L V aO i lO X s S
 go_enter func188,ntmps188
 go_wp2_with fail
 go_region_law (refine step_append_room rfl (.tmp 22) (.tmp 25) 75 rfl 106 M 9 underlying75 hi0 hz1 g 0 k cap ag4 A m (cap-j) news ag4 s1.aa hsrc.aa s2.aa af s3.aa ?_;rw[<- hW.aa])
 go_wp2
 go_ret
 exact⟨_,rfl,W.aa.1,W.aa.2⟩
