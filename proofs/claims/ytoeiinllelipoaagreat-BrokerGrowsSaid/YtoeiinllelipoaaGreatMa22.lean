/-
  The walk of vote.Tally (layer 18). Conditions: lists of at most a million.
-/
import Derived.Test.YtoeiinllelipoaaGreatMa21
import Derived.Test.YtoeiinllelipoaaGreatMz
set_option maxRecDepth 100000
set_option maxHeartbeats 16000000
set_option linter.unusedVariables false
set_option linter.unusedSimpArgs false
namespace Go.Proofs.YtoeiinllelipoaaGreat
open Go Go.RowKit Tryz
theorem arK(l:List fG)(v:Value)(q:fG->Bool)(f:Nat)(cs:Array Value)(w:World)(h:ar jW l v w)(S:l.length<=1000000)(T:∀C W,(callFunc f C).run prog W=.ok (.enter f C) W)
 (D:∀W,K w W->∀x∈l,Calls prog f (#[.agg (fk x)]++cs) W λe L=>e=.returned (.bool (q x))/\K W L) :
 Calls prog 192 #[v,.func (.func f) #[] cs] w λe w'=>∃i:Int,e=.returned (.int .i64 i)/\K w w'/\decide (0<=i)=l.any q:=by
 have kk:=K.rf w
 obtain⟨A,c,rfl,h,-⟩:=h
 have J:=ae D
 clear D
 go_enter func192,ntmps192
 go_wp2_with fail
 go_loopw [5,8] (fun _ i wr=>∃k:Nat,k<=l.length/\i=.int .i64 (k:Int)/\Hid ((l.take k).any q=false)/\K w wr) (fun _ i _=>l.length-(intOf i).toNat)
 case atStart=>exact⟨0,af,rfl,ae aj,kk⟩
 case round =>
  clear kk;obtain⟨k,hk,rfl,hall,kr⟩:=hrel;by_cases u:k<l.length
  ·have eF:(k:Int)<(l.length:Int):=af;obtain⟨B,E,Q,rfl,I,y,s,d⟩:=dM h k u au;have HB:=ae (xp q l k u);have HA:=ae (xq q l (k+1));have hm:=bW u;generalize l[k]=t at *;obtain rfl:=y w (K.rf w);have s:∀W,K w W->W.cell? ⟨B,E+k*4,none⟩=some (.int .i64 t.id.1):=s;have d:∀W,K w W->∀i,i<4->W.cell? ⟨B,E+k*4+i,none⟩=(fk t)[i]?:=λW j O=>λM=>(d W j O M).trans Array.getElem?_toList
   have F:=ae (J.aa wr kr t hm);have H:=s wr kr;have G:=d wr kr;clear y I hm d s;go_wp2_with fail
   refine F.aa.mono ?_;rintro e R⟨rfl,N⟩;have kW:=kr.tr N;clear H G F;exact Wk
  ·exact Wl
theorem aqk(l:List fG)(v:Value)(q:fG->Bool)(f:Nat)(cs:Array Value)(w:World)(h:ar jW l v w)(D:l.length<=1000000)(C:∀u W,(callFunc f u).run prog W=.ok (.enter f u) W)
 (t:∀W,K w W->∀x∈l,Calls prog f (#[.agg (fk x)]++cs) W λe B=>e=.returned (.bool (q x))/\K W B) :
 Calls prog 124 #[v,.func (.func f) #[] cs] w λe w'=>e=.returned (.bool (l.any q))/\K w w':=by
 have j:=ae (arK l v q f cs w h D C t)
 obtain⟨A,c,rfl⟩:=az h
 clear h t
 generalize l.any q=R at *
 go_enter func124,ntmps124
 go_wp2_with fail
 refine j.aa.mono ?_
 rintro e E⟨i,rfl,y,s⟩
 have HR:=ae s
 clear j s
 go_wp2
 go_ret
 exact⟨Wm,y⟩
theorem au3(x:fG)(a:av):decide (x.id=a)=(x.id.1==a.1&&(x.id.2.1==a.2.1&&x.id.2.2==a.2.2)):=by obtain⟨⟨i,t,j⟩,y⟩:=x;obtain⟨u,s,h⟩:=a;rw[Bool.eq_iff_iff];simp
theorem apt(x:fG)(a:av)(g:Nat)(w:World)(hg:ai w g 46 #[.int .i64 a.1,.int .u64 (a.2.1:Int),.int .u64 (a.2.2:Int)]) :
 Calls prog 125 #[.agg (fk x),.pointer (some ⟨g,0,none⟩)] w λe w'=>e=.returned (.bool (decide (x.id=a)))/\K w w':=by
 have i:=ae (au3 x a)
 have q:=hg.cells
 have B:=λo=>(K.rf w).al o
 obtain⟨j,s,u⟩:=a
 obtain⟨⟨A,C,t⟩,y⟩:=x
 simp only at q i⊢
 generalize decide ((A,C,t)=(j,s,u))=R at *
 clear hg
 go_enter func125,ntmps125
 go_wp2
 all_goals
  go_ret
  refine⟨?_,(K.rf w).al _⟩
  rw[i.aa]
  show Ending.returned (.bool _)=Ending.returned (.bool _)
  clear q B
  first|(simp_all;done)|(simp_all;omega)|(congr 2;rw[Bool.eq_iff_iff];simp_all;omega)
theorem awi:(prog.info? 117).map (λi=>(i.zero,i.size,i.bytes))=some (some (.agg #[.int .i64 0,.int .u64 0,.int .u64 0,.bool false]),4,32):=by kernel_rfl
theorem akQ:gJ prog 38 117 (.agg #[.int .i64 0,.int .u64 0,.int .u64 0,.bool false]) 4 32:=⟨underlying38,awi,rfl,au⟩
theorem arL(kids:List bK):∀(l:List aq) (o:List fG),o.length<=16->(l.foldl (pR kids) o).length<=16:=by
 intro l
 induction l with
 | nil=>intro o h;exact h
 | cons x l i =>
  intro o h;refine i _ ?_;unfold pR;split
  ·simp;omega
  ·exact h
theorem arM:∀(l:List av) (o:List fG),o.length<=16->(l.foldl lU o).length<=16:=by
 intro l
 induction l with
 | nil=>intro o h;exact h
 | cons x l i =>
  intro o h;refine i _ ?_;unfold lU;split
  ·exact h
  ·split
   ·exact h
   ·simp;omega
theorem aql:∀(l:List av) (o:List fG),16<=o.length->l.foldl lU o=o:=by
 intro l
 induction l with
 | nil=>intro o h;rfl
 | cons x l i =>
  intro o h;have j:lU o x=o:=by unfold lU;rw[if_pos h]
  rw[List.foldl_cons,j];exact i o h
theorem aqm(prom:List aq)(eX:List av)(kids:List bK)(vp vf U:Value)(w:World)(hp:ar aQ prom vp w)(hr:ar bI eX vf w)(hk:ar vE kids U w)
 (Rb:prom.length<=1000000) (yr:eX.length<=1000000) (hlk:kids.length<=1000000) (hv:∀m∈kids,m.bM.length<=1000000) :
 Calls prog 60 #[vp,vf,U] w λe w'=>∃v',e=.returned v'/\aT (λk=>k<w.heap.size) w.heap.size 117 jW (Lm prom eX kids) v' w'/\K w w':=by
 have CS:=ae λW (k:K w W) a=>ab6 kids a U W (aW hk k) hlk hv
 have HE:Hid (Lm prom eX kids=eX.foldl lU (prom.foldl (pR kids) [])):=ae rfl
 have uq:=ae λj=>arL kids (prom.take j) [] aj
 have aya:=ae λj o ho=>arM (eX.take j) o ho
 have XL:=ae λj o (h:16<=((eX.take j).foldl lU o).length)=>aql (eX.drop j) _ h
 obtain⟨Ap,cp,rfl,hl,-⟩:=hp
 obtain⟨Ar,cr,rfl,fg,-⟩:=hr
 obtain⟨Ak,ck,rfl⟩:=az hk
 generalize Lm prom eX kids=R at *
 have kk:=K.rf w
 have jt:=aT.nil (λk=>k<w.heap.size) w.heap.size 117 jW w
 clear hk hv
 go_enter func60,ntmps60
 go_wp2
 go_step3
 go_wp2_with fail
 go_loopw [7,9,10,15] (fun o _ _ i W=>∃j:Nat,j<=prom.length/\i=.int .i64 (j:Int)/\aT (fun k=>k<w.heap.size) w.heap.size 117 jW ((prom.take j).foldl (pR kids) []) o W/\K w W) (fun _ _ _ i _=>prom.length-(intOf i).toNat)
 case atStart=>exact⟨0,af,rfl,jt,kk⟩
 case round =>
  clear jt kk;obtain⟨j,hj,rfl,A,kr⟩:=hrel;have hpl:=uq.aa j;by_cases H:j<prom.length
  ·have X:(j:Int)<(prom.length:Int):=af;obtain⟨O,off,cs1,rfl,dH,hrl,J,d⟩:=dM hl j H au;have s:=ae (fold_succ (pR kids) prom [] j H);generalize prom[j]=x at *;generalize (prom.take j).foldl (pR kids) []=P at *;obtain⟨t,gD⟩:∃t,Hid (t=(prom.take (j+1)).foldl (pR kids) []):=⟨_,ae rfl⟩;replace s:Hid (t=pR kids P x):=ae (gD.aa.trans s.aa);obtain⟨vf,ve,rfl,hf,he⟩:=hrl w (K.rf w);have q9:∀i,i<8->wr.cell? ⟨O,off+j*8+i,none⟩=(aA x vf ve)[i]?:=λi hi=>(d wr kr i hi).trans Array.getElem?_toList
   have q0:wr.cell? ⟨O,off+j*8,none⟩=some (.int .i64 x.kind):=J wr kr;have C:=ai.new wr 102 (aA x vf ve);have G:K wr (wr.alloc (.cells (aA x vf ve) 102)):=(K.rf wr).al _;obtain⟨Af,cf,rfl⟩:=cB hf;obtain⟨Ae,ce,rfl⟩:=az he;obtain⟨Q,T,rfl⟩:=A.slice;clear d J hf he hrl dH;go_upto_region 5 with (fail);have F:=A.st G;have L:=kr.tr G;generalize wr.alloc _=w3 at *;clear q9 q0 A G kr;have V:=C.cell;have I:=ae (CS.aa w3 L (ax x));go_wp2_with fail
   refine I.aa.mono ?_;rintro e y⟨rfl,E⟩;have gB:=L.tr E;have cE:=F.st E;have bQ:=C.below E C.lt;clear F E V I;by_cases h0:jv kids (ax x)=0
   ·have HP:Hid (t=P):=ae (by rw[s.aa];unfold pR;rw[if_neg (by simp[h0])]);have h0b:(jv kids (ax x) != 0)=false:=Fk;generalize jv kids (ax x)=z at *;clear h0;exact K6
   have h0b:(jv kids (ax x) != 0)=true:=OJ;by_cases B:P.length<16;rotate_left
   ·have Y:¬(P.length:Int)<16:=af;have HP:Hid (t=P):=ae (by rw[s.aa];unfold pR;rw[if_neg (by omega)]);generalize jv kids (ax x)=z at *;clear h0 B;exact K6
   have Y:(P.length:Int)<16:=af;have HP:Hid (t=P++[⟨ax x,jv kids (ax x)==1⟩]):=ae (by
    rw[s.aa];unfold pR;rw[if_pos ⟨h0,B⟩];congr 3)
   generalize jv kids (ax x)=z at *;have V:=bQ.cell;clear h0 B s;have hr:=fE.new (S:=jW) (e:=117) (x:=⟨ax x,z==1⟩) (v:=.agg (fk ⟨ax x,z==1⟩)) (w:=y) (N:=λk=>k<w.heap.size∨(Value.slice Q P.length T).ownBlock=some k) (λW u=>rfl) 0 (fw _);have M:K y (y.alloc (.cells (fk ⟨ax x,z==1⟩) 117)):=(K.rf y).al _;have fX:=cE.st M;have oY:=gB.tr M;have pI:w.heap.size<=(y.alloc (.cells (fk ⟨ax x,z==1⟩) 117)).heap.size:=oY.size;clear cE;go_wp2_with (at_builtin;refine jK rfl _ _ 38 rfl _ 4 32 akQ rfl rfl fX _ rfl ⟨ax x,z==1⟩ ?p1 ?p2 ?p3 ?_)
   case p1=>exact hr
   case p2=>omega
   case p3=>exact pI
   exact Wq
  ·have X:¬(j:Int)<(prom.length:Int):=af;have HR:Hid (R=eX.foldl lU ((prom.take j).foldl (pR kids) [])):=ae Wr;generalize (prom.take j).foldl (pR kids) []=P0 at *;have LN:=fg;have eu:=A;have k1:=kr;clear HE hl fg H hj uq A kr CS;obtain⟨D,rfl⟩:∃o,o=P0:=⟨_,rfl⟩;generalize wr=w1 at *;go_wp2_with fail
   go_step3;go_wp2_with fail
   go_loopw [7,12,41] (fun o _ i W=>∃j:Nat,j<=eX.length/\i=.int .i64 (j:Int)/\aT (fun k=>k<w.heap.size) w.heap.size 117 jW ((eX.take j).foldl lU D) o W/\K w W) (fun _ _ i _=>eX.length-(intOf i).toNat)
   case atStart=>exact⟨0,af,rfl,eu,k1⟩
   case round =>
    clear eu;obtain⟨j,hj,rfl,A,kr⟩:=hrel;have hp2:=aya.aa j _ hpl;by_cases H:j<eX.length
    ·have X:(j:Int)<(eX.length:Int):=af;obtain⟨O,o1,cs1,rfl,dH,hr1,J,dd⟩:=dM LN j H au;have s:=ae (fold_succ lU eX D j H);have Z:=ae (XL.aa j D);have GW:=ae (show eX.foldl lU D=(eX.drop j).foldl lU ((eX.take j).foldl lU D) by rw[<- List.foldl_append,List.take_append_drop]);generalize eX[j]=x at *;generalize (eX.take j).foldl lU D=P at *;obtain⟨t,gD⟩:∃t,Hid (t=(eX.take (j+1)).foldl lU D):=⟨_,ae rfl⟩;replace s:Hid (t=lU P x):=ae (gD.aa.trans s.aa);obtain rfl:=hr1 wr kr;obtain⟨Q,T,rfl⟩:=A.slice;have q9:∀i,i<3->wr.cell? ⟨O,o1+j*3+i,none⟩=(bZ x)[i]?:=λi hi=>(dd wr kr i hi).trans Array.getElem?_toList
     have q0:wr.cell? ⟨O,o1+j*3,none⟩=some (.int .i64 x.1):=J wr kr;have C:=ai.new wr 46 (bZ x);have G:K wr (wr.alloc (.cells (bZ x) 46)):=(K.rf wr).al _;clear dd J dH hr1;go_upto_region 12 with (fail);have F:=A.st G;have L:=kr.tr G;generalize wr.alloc _=w3 at *;generalize wr.heap.size=gx at C⊢;clear q9 q0 A G kr;by_cases B:16<=P.length
     ·have Y:(16:Int)<=(P.length:Int):=af;have ir:Hid (R=P):=ae (by rw[HR.aa,GW.aa,Z.aa B]);have kF:=L;clear B s gD Z GW hp2 hpl;go_wp2;try rw[gS]
      go_ret;exact⟨_,rfl,by rw[ir.aa];exact F,kF⟩
     have Y:¬(16:Int)<=(P.length:Int):=af;clear Z GW;have I:=ae (aqk P _ (λv=>decide (v.id=x)) 125 #[.pointer (some ⟨gx,0,none⟩)] w3 F.ar af (λ_ _=>nz) λW k v _=>apt v x gx W (C.below k C.lt));go_wp2_with fail
     refine I.aa.mono ?_;rintro e y⟨rfl,E⟩;have gB:=L.tr E;have cE:=F.st E;have bQ:=C.below E C.lt;clear F E I;cases hb0:P.any λv=>decide (v.id=x)
     rotate_left
     ·have HP:Hid (t=P):=ae (by rw[s.aa];unfold lU;rw[if_neg B,if_pos hb0]);clear hb0 B;exact K6
     have HP:Hid (t=P++[⟨x,false⟩]):=ae (by rw[s.aa];unfold lU;rw[if_neg B,if_neg (by simp[hb0])]);have V:=bQ.cell;clear hb0 s B;have hr:=fE.new (S:=jW) (e:=117) (x:=⟨x,false⟩) (v:=.agg (fk ⟨x,false⟩)) (w:=y) (N:=λk=>k<w.heap.size∨(Value.slice Q P.length T).ownBlock=some k) (λW u=>rfl) 0 (fw _);have M:K y (y.alloc (.cells (fk ⟨x,false⟩) 117)):=(K.rf y).al _;have fX:=cE.st M;have oY:=gB.tr M;have il:=oY;have pI:w.heap.size<=(y.alloc (.cells (fk ⟨x,false⟩) 117)).heap.size:=il.size;clear cE;go_wp2_with (at_builtin;refine jK rfl _ _ 38 rfl _ 4 32 akQ rfl rfl fX _ rfl ⟨x,false⟩ ?p1 ?p2 ?p3 ?_)
     case p1=>exact hr
     case p2=>omega
     case p3=>exact pI
     intro v9 w9 bG bJ dc bo;have tF:=il.trans bo;exact ahR
    ·have X:¬(j:Int)<(eX.length:Int):=af;have ir:Hid (R=(eX.take j).foldl lU D):=ae (by rw[HR.aa,eT (by omega)]);have kF:=kr;generalize (eX.take j).foldl lU D=P at *;obtain⟨Q,T,rfl⟩:=A.slice;go_wp2;try rw[gS]
     go_ret;exact⟨_,rfl,by rw[ir.aa];exact A,kF⟩
theorem acP(s:bA):∀(l:List aq) (p:List aq×List aq),(l.foldl (kM s) p).1.length<=max p.1.length 4/\(l.foldl (kM s) p).2.length<=p.2.length+l.length:=by
 intro l
 induction l with
 | nil=>intro p;simp;omega
 | cons x l i =>
  intro p;have:=i (kM s p x);have j:(kM s p x).1.length<=max p.1.length 4/\(kM s p x).2.length<=p.2.length+1:=by
   unfold kM;split
   ·omega
   ·split
    ·simp;omega
    ·split
     ·simp;omega
     ·omega
  exact IB
theorem aqn(s:bA)(op asks:List aq)(vl vp V vo va:Value)(w:World)(hs:jr s (.agg (bS s vl vp V)) w)(E:ar aQ op vo w)(ha:ar aQ asks va w)
 (tG:∀x∈op,eD x) (GU:∀x∈asks,eD x) (jX:s.list.length<=1000000/\s.ab.length<=1000000) (hlo:op.length<=1000000) (JB:asks.length<=500000) :
 Calls prog 113 #[.agg (bS s vl vp V),vo,va] w λe w'=>∃v1 v2,e=.returned (.tuple #[v1,v2])/\lK w.heap.size w.heap.size 102 aQ (oG s op asks).1 v1 102 aQ (oG s op asks).2 v2 w'/\K w w':=by
 have tE:=ae λW (k:K w W)=>Fm hs k
 have CH:=ae λW (k:K w W) a=>AW s a (.agg (bS s vl vp V)) W (tE.aa W k) jX.1
 have CA:=ae λW (k:K w W) a=>Hs s a (.agg (bS s vl vp V)) W (tE.aa W k) jX.2
 have CO:=ae λW (k:K w W)=>aaX op vo W (aW E k) tG af
 have ZV:Hid (oG s op asks=asks.foldl (kM s) (op,[])):=ae rfl
 have uq:=ae λj=>acP s (asks.take j) (op,[])
 have HS:=ae GU
 obtain⟨Re,Rf,JA,e,Y,Z,h3⟩:=hs
 simp at e
 obtain⟨rfl,rfl,rfl⟩:=e
 obtain⟨Al,cl,rfl⟩:=az Y
 obtain⟨Ap,cp,rfl⟩:=az Z
 obtain⟨Ab,cb,rfl⟩:=az h3
 obtain⟨Aa,ca,rfl,hl,-⟩:=ha
 obtain⟨Ao,co,rfl⟩:=az E
 generalize oG s op asks=R at *
 have D:K w (w.alloc (.cells (bS s (.slice Al s.list.length cl) (.slice Ap s.prom.length cp) (.slice Ab s.ab.length cb)) 52)):=(K.rf w).al _
 have hb:=ai.new w 52 (bS s (.slice Al s.list.length cl) (.slice Ap s.prom.length cp) (.slice Ab s.ab.length cb))
 clear Y Z h3 E tE GU tG
 go_enter func113,ntmps113
 go_wp2
 go_step3
 generalize w.alloc _=G at *
 obtain⟨lo,X⟩:∃lo,Hid (lo=w.heap.size):=⟨_,ae rfl⟩
 generalize kL:w.heap.size=ga at hb⊢
 clear kL
 have qb:=hb.cells
 clear hb
 go_wp2_with fail
 refine (CO.aa G D).mono ?_
 rintro e w2⟨v2,rfl,cD,k2⟩
 have A:lK lo G.heap.size 102 aQ op v2 102 aQ ([]:List aq) (.slice none 0 0) w2:=lK.Yj (cD.less λk hk=>by rw[X.aa]at hk;exact bB hk D.size) (by rw[X.aa];exact D.size)
 have qb2:=qb
 clear cD CO qb
 obtain⟨A2,c2,rfl⟩:=A.a.slice
 have kk:=k2
 go_wp2_with fail
 go_step3
 go_wp2_with fail
 go_loopw [8,9,11,16] (fun o1 o2 _ i W=>∃j:Nat,j<=asks.length/\i=.int .i64 (j:Int)/\lK lo G.heap.size 102 aQ ((asks.take j).foldl (kM s) (op,[])).1 o1 102 aQ ((asks.take j).foldl (kM s) (op,[])).2 o2 W/\K G W) (fun _ _ _ i _=>asks.length-(intOf i).toNat)
 case atStart=>exact⟨0,af,rfl,by simpa using A,kk⟩
 case round =>
  clear A kk;obtain⟨j,hj,rfl,A,kr⟩:=hrel;by_cases hlt:j<asks.length
  ·have ba:(j:Int)<(asks.length:Int):=af;obtain⟨b1,off,cs,rfl,dH,hrl,d0,d⟩:=dM hl j hlt au;have L:=ae (fold_succ (kM s) asks (op,[]) j hlt);have qG:=HS.aa _ (bW hlt);have hpl:=uq.aa j;generalize asks[j]=x at *;generalize (asks.take j).foldl (kM s) (op,[])=P at *;obtain⟨C,gD⟩:∃C,Hid (C=(asks.take (j+1)).foldl (kM s) (op,[])):=⟨_,ae rfl⟩;replace L:Hid (C=kM s P x):=ae (gD.aa.trans L.aa);have I1:P.1.length<=1000000:=IC;have LO:P.2.length<=500000:=IC;obtain⟨u,B⟩:=P;simp only at A I1 LO;obtain⟨vf,ve,rfl,hf,he⟩:=hrl w (K.rf w);have oB:=D.tr kr;have HE:Hid (∀W,K w W->cR x (.agg (aA x vf ve)) W):=ae λW k=>⟨_,_,rfl,dB _ _ _ _ hf k,aW he k⟩
   have q9:∀i,i<8->wr.cell? ⟨b1,off+j*8+i,none⟩=(aA x vf ve)[i]?:=λi hi=>(d wr oB i hi).trans Array.getElem?_toList
   have q0:wr.cell? ⟨b1,off+j*8,none⟩=some (.int .i64 x.kind):=d0 wr oB;have hx:=ai.new wr 102 (aA x vf ve);have k3:K wr (wr.alloc (.cells (aA x vf ve) 102)):=(K.rf wr).al _;obtain⟨Af,cf,rfl⟩:=cB hf;obtain⟨Ae,ce,rfl⟩:=az he;obtain⟨A1,c1,rfl⟩:=A.a.slice;obtain⟨A3,c3,rfl⟩:=A.b.slice;clear d d0 hf he hrl dH hpl;go_upto_region 6 with (fail);have ED:=A.st k3;have cS:=kr.tr k3;generalize wr.alloc _=w3 at *;clear q9 q0 A;have q8:=hx.cell;go_wp2_with fail
   refine (CH.aa w3 (D.tr cS) (ax x)).mono ?_;rintro e w4⟨rfl,t⟩;have gB:=cS.tr t;have sL:=ED.st t;have bQ:=hx.below t hx.lt;clear ED t q8;have q8:=bQ.cell;cases hb0:cA s.list (ax x);rotate_left
   ·have HP:Hid (C=(u,B)):=ae (by rw[L.aa];unfold kM;rw[if_pos (by simp[hb0])]);exact ahS
   go_wp2_with fail
   refine (CA.aa w4 (D.tr gB) (ax x)).mono ?_;rintro e w5⟨rfl,t⟩;have mq:=gB.tr t;have T:=sL.st t;have di:=bQ.below t bQ.lt;clear sL t q8;have q8:=di.cell;cases aO:dx s.ab (ax x);rotate_left
   ·have HP:Hid (C=(u,B)):=ae (by rw[L.aa];unfold kM;rw[if_pos (by simp[hb0,aO])]);have lB:=ae T;clear T q8 hb0 aO;exact ahT
   go_wp2_with fail
   refine (aby u (ax x) _ w5 T.a.ar I1).mono ?_;rintro e w6⟨rfl,t⟩;have nL:=mq.tr t;have Q:=T.st t;have gH:=di.below t di.lt;clear T t q8;have q8:=gH.cell;cases hb2:cA u (ax x);rotate_left
   ·have HP:Hid (C=(u,B)):=ae (by rw[L.aa];unfold kM;rw[if_pos (by simp[hb0,aO,hb2])]);have lB:=ae Q;clear Q q8 hb0 aO hb2;exact ahU
   go_wp2_with fail
   refine (aby B (ax x) _ w6 Q.b.ar af).mono ?_;rintro e O⟨rfl,t⟩;have ov:=nL.tr t;have y:=Q.st t;have jc:=gH.below t gH.lt;clear Q t q8;have q8:=jc.cell;cases bD:cA B (ax x);rotate_left
   ·have HP:Hid (C=(u,B)):=ae (by rw[L.aa];unfold kM;rw[if_pos (by simp[hb0,aO,hb2,bD])]);have lB:=ae y;clear y q8 hb0 aO hb2 bD;exact ahV
   have N:Hid (C=if x.kind≠1 then (u,B++[x])else if u.length<4 then (u++[x],B)else (u,B)):=ae (by rw[L.aa];unfold kM;rw[if_neg (by simp[hb0,aO,hb2,bD])]);clear hb0 aO hb2 bD;by_cases hk:x.kind≠1
   ·have hk2:(x.kind != 1)=true:=pc;have HP:Hid (C=(u,B++[x])):=ae (by rw[N.aa,if_pos hk]);clear N;go_wp2_with fail
    refine (NY x _ O (HE.aa _ (D.tr ov)) qG).mono ?_;rintro e F⟨v8,rfl,E,M⟩;obtain⟨I,H,rfl,U⟩:=Fi E;have rQ:=y.a.blk;have dU:=y.b.blk;have LP:G.heap.size<=O.heap.size:=ov.size;have jD:lo<=G.heap.size:=y.lo;have oY:=ov.tr M;have hr:=fE.new (S:=aQ) (e:=102) (v:=.agg (aA x I H)) U 0 (fw _);have J:K F (F.alloc (.cells (aA x I H) 102)):=(K.rf F).al _;have lB:=y.st (M.tr J);have il:=oY.tr J;have nr:O.heap.size<=(F.alloc (.cells (aA x I H) 102)).heap.size:=bq M.size J.size;clear y U E q8;go_wp2_with (at_builtin;refine jK rfl _ _ 39 rfl _ 8 96 rG rfl rfl lB.b _ rfl x ?p1 ?p2 ?p3 ?_)
    case p1 =>
     exact hr.less λk hk=>by
      rcases hk with (hk|hk)|hk
      ·omega
      ·have:=rQ k hk;omega
      ·have:=dU k hk;omega
    case p2=>omega
    case p3=>exact bq LP nr
    intro v9 w9 bG bJ dc bo;have LQ:=(lB.swap.push bG bJ pO).swap;exact ahW
   have hk2:(x.kind != 1)=false:=pc;by_cases lh:u.length<4
   ·have B4:(u.length:Int)<4:=af;have HP:Hid (C=(u++[x],B)):=ae (by rw[N.aa,if_neg (by simpa using hk),if_pos lh]);clear N;go_wp2_with fail
    refine (NY x _ O (HE.aa _ (D.tr ov)) qG).mono ?_;rintro e F⟨v8,rfl,E,M⟩;obtain⟨I,H,rfl,U⟩:=Fi E;have rQ:=y.a.blk;have dU:=y.b.blk;have LP:G.heap.size<=O.heap.size:=ov.size;have jD:lo<=G.heap.size:=y.lo;have oY:=ov.tr M;have hr:=fE.new (S:=aQ) (e:=102) (v:=.agg (aA x I H)) U 0 (fw _);have J:K F (F.alloc (.cells (aA x I H) 102)):=(K.rf F).al _;have lB:=y.st (M.tr J);have il:=oY.tr J;have nr:O.heap.size<=(F.alloc (.cells (aA x I H) 102)).heap.size:=bq M.size J.size;clear y U E q8;exact ahX
   have HP:Hid (C=(u,B)):=ae (by rw[N.aa,if_neg (by simpa using hk),if_neg lh]);have B4:¬(u.length:Int)<4:=af;have lB:=ae y;clear N y;exact ahV
  ·have ba:¬(j:Int)<(asks.length:Int):=af;obtain rfl:j=asks.length:=af;rw[mC]at A;have HT:=ae A;have kF:=D.tr kr;obtain⟨A1,c1,Y⟩:=A.a.slice;obtain⟨A3,c3,Z⟩:=A.b.slice;subst Y Z;clear A;go_wp2;go_ret2;exact⟨_,_,rfl,by rw[ZV.aa,<- X.aa];exact HT.aa.low (by rw[X.aa];exact D.size) (aG _),kF⟩
def IJ(s:bA)(a:av):Bool:=cA s.list a||cA s.prom a||dx s.ab a
theorem aqo(s:bA)(a:av)(vl vp u:Value)(g:Nat)(w:World)(O:jr s (.agg (bS s vl vp u)) w)(hg:ai w g 52 (bS s vl vp u))(E:s.list.length<=1000000/\s.prom.length<=1000000/\s.ab.length<=1000000) :
 Calls prog 233 #[cN a,.pointer (some ⟨g,0,none⟩)] w λe w'=>e=.returned (.bool (IJ s a))/\K w w':=by
 have F:Hid (IJ s a=(cA s.list a||cA s.prom a||dx s.ab a)):=ae rfl
 have D:=ae λW (k:K w W)=>Fm O k
 have U:=ae λW (k:K w W)=>AW s a (.agg (bS s vl vp u)) W (D.aa W k) E.1
 have T:=ae λW (k:K w W)=>JR s a (.agg (bS s vl vp u)) W (D.aa W k) E.2.1
 have V:=ae λW (k:K w W)=>Hs s a (.agg (bS s vl vp u)) W (D.aa W k) E.2.2
 obtain⟨X,Rf,JA,e,N,J,L⟩:=O
 simp at e
 obtain⟨rfl,rfl,rfl⟩:=e
 obtain⟨Z,cl,rfl⟩:=az N
 obtain⟨Ap,Y,rfl⟩:=az J
 obtain⟨Ab,cb,rfl⟩:=az L
 have hb:=ai.new w 46 (bZ a)
 have i:K w (w.alloc (.cells (bZ a) 46)):=(K.rf w).al _
 have M:=hg.below i hg.lt
 generalize IJ s a=R at *
 clear N J L hg D
 go_enter func233,ntmps233
 go_upto_region 1 with (fail)
 generalize w.alloc _=G at *
 have t:=hb.cells
 have j:=M.cells
 have y:=t G (K.rf _)
 have A:=j G (K.rf _)
 clear hb M
 go_wp2_with fail
 refine (U.aa G i).mono ?_
 rintro e I⟨rfl,C⟩
 clear y A
 cases hb0:cA s.list a
 rotate_left
 ·have HF:Hid (R=true):=ae (by rw[F.aa,hb0];simp);have kF:=i.tr C;clear t j hb0;go_wp2;exact DC
 have y:=t I C
 have A:=j I C
 go_wp2_with fail
 refine (T.aa I (i.tr C)).mono ?_
 rintro e H⟨rfl,S⟩
 have B:=C.tr S
 clear y A
 cases aO:cA s.prom a
 rotate_left
 ·have HF:Hid (R=true):=ae (by rw[F.aa,aO];simp);have kF:=i.tr B;clear t j hb0 aO;go_wp2;exact DC
 have y:=t H B
 have A:=j H B
 go_wp2_with fail
 refine (V.aa H (i.tr B)).mono ?_
 rintro e w4⟨rfl,Q⟩
 have HF:Hid (R=dx s.ab a):=ae (by rw[F.aa,hb0,aO];rfl)
 have kF:=i.tr (B.tr Q)
 clear y A t j hb0 aO
 go_wp2
 go_ret
 exact⟨Bk,kF⟩
theorem abz(s:bA):∀(l:List aq) (p:List aq×List av),(l.foldl (iR s) p).1.length<=p.1.length+l.length/\(l.foldl (iR s) p).2.length<=p.2.length+l.length:=by
 intro l
 induction l with
 | nil=>intro p;simp
 | cons x l i =>
  intro p;have:=i (iR s p x);have j:(iR s p x).1.length<=p.1.length+1/\(iR s p x).2.length<=p.2.length+1:=by
   unfold iR;split
   ·omega
   ·split
    ·simp
    ·simp
  exact IB
theorem aoP(s:bA)(l:List aq)(vl vp vb va:Value)(w:World)(hs:jr s (.agg (bS s vl vp vb)) w)(ha:ar aQ l va w)
 (GU:∀x∈l,eD x) (jX:s.list.length<=1000000/\s.prom.length<=1000000/\s.ab.length<=1000000) (JB:l.length<=500000) :
 Calls prog 189 #[.agg (bS s vl vp vb),va] w λe w'=>∃v1 v2,e=.returned (.tuple #[v1,v2])/\lK w.heap.size w.heap.size 102 aQ (nV s l).1 v1 46 bI (nV s l).2 v2 w'/\K w w':=by
 have tE:=ae hs
 have ZV:Hid (nV s l=l.foldl (iR s) ([],[])):=ae rfl
 have uq:=ae λj=>abz s (l.take j) ([],[])
 have HS:=ae GU
 obtain⟨Re,Rf,JA,e,h1,h2,h3⟩:=hs
 simp at e
 obtain⟨rfl,rfl,rfl⟩:=e
 obtain⟨Al,cl,rfl⟩:=az h1
 obtain⟨Ap,cp,rfl⟩:=az h2
 obtain⟨Ab,cb,rfl⟩:=az h3
 obtain⟨Aa,ca,rfl,hl,-⟩:=ha
 generalize nV s l=R at *
 generalize azc:bS s (.slice Al s.list.length cl) (.slice Ap s.prom.length cp) (.slice Ab s.ab.length cb)=sa at *
 have I:K w (w.alloc (.cells sa 52)):=(K.rf w).al _
 have hb:=ai.new w 52 sa
 subst azc
 clear h1 h2 h3 GU
 go_enter func189,ntmps189
 go_wp2
 go_step3
 generalize w.alloc _=F at *
 generalize Z:w.heap.size=lo at hb⊢
 have lQ:=ae Z
 have hz1:lo<=F.heap.size:=by rw[<- Z];exact I.size
 clear Z
 have CK:=ae λW (k:K F W) a=>aqo s a _ _ _ lo W (Fm tE.aa (I.tr k)) (hb.below k hb.lt) jX
 have qb:=hb.cells
 have kk:=K.rf F
 have A:lK lo F.heap.size 102 aQ ([]:List aq) (.slice none 0 0) 46 bI ([]:List av) (.slice none 0 0) F:=lK.Yj (aT.nil _ _ _ _ _) hz1
 clear hb
 go_wp2_with fail
 go_step3
 go_wp2_with fail
 go_loopw [6,7,10,14] (fun o1 o2 _ i W=>∃j:Nat,j<=l.length/\i=.int .i64 (j:Int)/\lK lo F.heap.size 102 aQ ((l.take j).foldl (iR s) ([],[])).1 o1 46 bI ((l.take j).foldl (iR s) ([],[])).2 o2 W/\K F W) (fun _ _ _ i _=>l.length-(intOf i).toNat)
 case atStart=>exact⟨0,af,rfl,by simpa using A,kk⟩
 case round =>
  clear A kk;obtain⟨j,hj,rfl,A,kr⟩:=hrel;by_cases Y:j<l.length
  ·have ba:(j:Int)<(l.length:Int):=af;obtain⟨b1,off,cs,rfl,dH,hrl,d0,d⟩:=dM hl j Y au;have HF:=ae (fold_succ (iR s) l ([],[]) j Y);have qG:=HS.aa _ (bW Y);have hpl:=uq.aa j;generalize l[j]=x at *;generalize (l.take j).foldl (iR s) ([],[])=P at *;obtain⟨D,gD⟩:∃D,Hid (D=(l.take (j+1)).foldl (iR s) ([],[])):=⟨_,ae rfl⟩;replace HF:Hid (D=iR s P x):=ae (gD.aa.trans HF.aa);have I1:P.1.length<=500000:=IC;have LO:P.2.length<=500000:=IC;obtain⟨t,B⟩:=P;simp only at A I1 LO;obtain⟨vf,M,rfl,X,T⟩:=hrl w (K.rf w);have oB:=I.tr kr;have HE:Hid (∀W,K w W->cR x (.agg (aA x vf M)) W):=ae λW k=>⟨_,_,rfl,dB _ _ _ _ X k,aW T k⟩
   have q9:∀i,i<8->wr.cell? ⟨b1,off+j*8+i,none⟩=(aA x vf M)[i]?:=λi hi=>(d wr oB i hi).trans Array.getElem?_toList
   have q0:wr.cell? ⟨b1,off+j*8,none⟩=some (.int .i64 x.kind):=d0 wr oB;have O:=ai.new wr 102 (aA x vf M);have k3:K wr (wr.alloc (.cells (aA x vf M) 102)):=(K.rf wr).al _;obtain⟨Af,cf,rfl⟩:=cB X;obtain⟨Ae,ce,rfl⟩:=az T;obtain⟨A1,c1,rfl⟩:=A.a.slice;obtain⟨A3,c3,rfl⟩:=A.b.slice;clear d d0 X T hrl dH hpl;go_upto_region 7 with (fail);have ED:=A.st k3;have cS:=kr.tr k3;generalize wr.alloc _=w3 at *;clear q9 q0 A;have q8:=O.cell;go_wp2_with fail
   refine (CK.aa w3 cS (ax x)).mono ?_;rintro e w4⟨rfl,y⟩;have gB:=cS.tr y;have sL:=ED.st y;have V:=O.below y O.lt;clear ED y q8;have q8:=V.cell;cases hb0:IJ s (ax x);rotate_left
   ·have HP:Hid (D=(t,B)):=ae awj;exact ahS
   go_wp2_with fail
   refine (abc t (ax x) _ w4 sL.a.ar af).mono ?_;rintro e w5⟨rfl,y⟩;have mq:=gB.tr y;have H:=sL.st y;have di:=V.below y V.lt;clear sL y q8;have q8:=di.cell;cases hb2:cA t (ax x);rotate_left
   ·have HP:Hid (D=(t,B)):=ae (by rw[HF.aa];unfold iR;rw[if_pos (by simp[hb2])]);have lB:=ae H;clear H q8 hb0 hb2;exact ahT
   go_wp2_with fail
   refine (EN B (ax x) _ w5 H.b.ar af).mono ?_;rintro e C⟨rfl,y⟩;have nL:=mq.tr y;have E:=H.st y;have gH:=di.below y di.lt;clear H y q8;have q8:=gH.cell;cases bD:dx B (ax x);rotate_left
   ·have HP:Hid (D=(t,B)):=ae (by rw[HF.aa];unfold iR;rw[if_pos (by simp[bD])]);have lB:=ae E;clear E q8 hb0 hb2 bD;exact ahU
   have J:Hid (D=if s.prom.length+t.length<6 then (t++[x],B)else (t,B++[ax x])):=ae awk;have rQ:=E.a.blk;have dU:=E.b.blk;have LP:F.heap.size<=C.heap.size:=nL.size;clear hb0 hb2 bD;by_cases h6:s.prom.length+t.length<6
   ·have h6i:(s.prom.length:Int)+(t.length:Int)<6:=af;have HP:Hid (D=(t++[x],B)):=ae (by rw[J.aa,if_pos h6]);clear J h6;go_wp2_with fail
    refine (apg x _ C (HE.aa _ (I.tr nL)) qG).mono ?_;rintro e L⟨v8,rfl,ho,k8⟩;obtain⟨U,Q,rfl,jH⟩:=Fi ho;have oY:=nL.tr k8;have hr:=fE.new (S:=aQ) (e:=102) (v:=.agg (aA x U Q)) jH 0 (fw _);have G:K L (L.alloc (.cells (aA x U Q) 102)):=(K.rf L).al _;have lB:=E.st (k8.tr G);have il:=oY.tr G;have nr:C.heap.size<=(L.alloc (.cells (aA x U Q) 102)).heap.size:=bq k8.size G.size;clear E jH ho q8;exact ahX
   ·have h6i:¬(s.prom.length:Int)+(t.length:Int)<6:=af;have HP:Hid (D=(t,B++[ax x])):=ae (by rw[J.aa,if_neg h6]);clear J h6;have hr:=fE.new (S:=bI) (e:=46) (x:=ax x) (v:=.agg (bZ (ax x))) (w:=C) (N:=λk=>(k<lo∨(Value.slice A1 t.length c1).ownBlock=some k)∨(Value.slice A3 B.length c3).ownBlock=some k) (λW u=>rfl) 0 (fw _);have G:K C (C.alloc (.cells (bZ (ax x)) 46)):=(K.rf C).al _;have lB:=E.st G;have il:=nL.tr G;have nr:C.heap.size<=(C.alloc (.cells (bZ (ax x)) 46)).heap.size:=G.size;clear E;go_wp2_with (at_builtin;refine jK rfl _ _ 32 rfl _ 3 24 uJ rfl rfl lB.b _ rfl (ax x) ?p1 ?p2 ?p3 ?_)
    case p1=>exact hr
    case p2=>omega
    case p3=>exact bq LP nr
    intro v9 w9 bG bJ dc bo;have LQ:=(lB.swap.push bG bJ pO).swap;have tF:=il.trans bo;clear hr lB bG bJ dc bo q8;exact Ws
  ·have ba:¬(j:Int)<(l.length:Int):=af;have HR:Hid (R=(l.take j).foldl (iR s) ([],[])):=ae (by rw[ZV.aa,eT (by omega)]);have kF:=I.tr kr;generalize (l.take j).foldl (iR s) ([],[])=P at *;have HT:=ae (A.low (base':=lo) hz1 (aG _));obtain⟨A1,c1,rfl⟩:=A.a.slice;obtain⟨A3,c3,rfl⟩:=A.b.slice;clear A;go_wp2;go_ret2;exact⟨_,_,rfl,by rw[HR.aa,lQ.aa];exact HT.aa,kF⟩
theorem J9(p:List Int)(n:Int):(Fw p n).length<=p.length:=by
 unfold Fw;split
 ·unfold qT;exact VX
 ·simp
theorem awl{m:bK}{v:Value}{W:World}(h:js m v W):vE.rel m v.cells.toList W:=by obtain⟨y,s,t,j,u,i,rfl,h⟩:=h;exact⟨y,s,t,j,u,i,rfl,h⟩
theorem Ty{M:Nat->Prop}{p:cV}{B:aB}{w:World}(h:bC M p B w)(L:bH B) :
 Calls prog 61 #[.pointer (some ⟨p.g,0,none⟩)] w λe w'=>∃v',e=.returned v'/\Fx M (λW=>ar vE (cZ B) v' W) w'/\K w w':=by
 have H:=ae h
 have C1:=ae (N8 h L)
 have oU:(mF B).length<=16:=bq (J9 _ _) (vO L.tr).2
 have HM:=ae h.low
 have q:=h.q
 have Z:=ae λW (k:K w W) x=>(Ig (LF (P:=prog) (kt:=3) underlying3) underlying92 (ajG W) (h.rep.st k) x).2
 have HL:Hid (cZ B=(mF B).map (iI B)):=ae rfl
 generalize mF B=s at *
 generalize cZ B=R at *
 obtain⟨g,gl,gd,gr,gt,vd,vr,vp,vh,vl,vq,va,vt,vf,vw,kr⟩:=p
 simp only at q Z
 clear h L
 go_enter func61,ntmps61
 go_wp2_with fail
 refine C1.aa.mono ?_
 rintro e y⟨v1,rfl,U,u⟩
 obtain⟨A1,c1,e1,T,-⟩:=U.ar
 subst e1
 have MN:=ae T
 clear U T C1
 have hO:=aT.nil (λk=>M k) y.heap.size 41 vE y
 have kk:=K.rf y
 go_wp2_with fail
 go_loopw [3,5,9] (fun o _ i W=>∃j:Nat,j<=s.length/\i=.int .i64 (j:Int)/\aT (fun k=>M k) y.heap.size 41 vE ((s.take j).map (iI B)) o W/\K y W) (fun _ _ i _=>s.length-(intOf i).toNat)
 case atStart=>exact⟨0,af,rfl,Dz,kk⟩
 case round =>
  clear hO kk;obtain⟨j,hj,rfl,hO,t⟩:=hrel;by_cases hlt:j<s.length
  ·have ba:(j:Int)<(s.length:Int):=af;obtain⟨b,off,rfl,hcell⟩:=ints_at MN.aa af;have cj:=hcell wr t j hlt;have HT:Hid ((s.take (j+1)).map (iI B)=(s.take j).map (iI B)++[iI B s[j]]):=ae VV;generalize s[j]=x at *;have F:Fx (λk=>M k∨w.heap.size<=k) (λW=>js (iI B x) ((qV kr x).getD (.agg AB)) W) wr:=(H.aa.bL.to (X:=λ_=>False) (N:=λk=>M k∨w.heap.size<=k) (ah.bg (u.tr t) _) (λ_ h=>h.elim) (λk hk hx=>hx.resolve_right af)).mono λW d=>d.bR.look x
   obtain⟨C,D,I,G,E,A,em,hm⟩:=F.now;have J:=Z.aa wr (u.tr t) x;rw[em]at J F;have qg:=q wr (u.tr t);simp only[encI]at J;have bN:=hO.blk;have V:Fx (λk=>M k∨w.heap.size<=k) (λW=>vE.rel (iI B x) (Value.agg (fH (iI B x) C D I G E A)).cells.toList W) wr:=F.mono λW h=>awl h
   have Q:=fE.new (S:=vE) (e:=41) (v:=.agg (fH (iI B x) C D I G E A)) V 0 (fw _);have O:=hO.st ((K.rf wr).al (.cells (fH (iI B x) C D I G E A) 41));have Y:=t.tr ((K.rf wr).al (.cells (fH (iI B x) C D I G E A) 41));clear hO F V hm em hcell;go_wp2_with (at_builtin;refine jK rfl _ _ 132 rfl _ 8 160 TMs rfl rfl O _ rfl (iI B x) ?p1 ?p2 ?p3 ?_)
   case p1 =>
    refine Q.less λk hk=>?_
    rcases hk with hk|hk
    ·exact .inl hk
    ·have:=(bN k hk).1;have:=u.size;exact .inr af
   case p2=>simp;omega
   case p3=>exact Y.size
   intro v9 w9 bG bJ _ bo;rw[<- List.map_take,<- HT.aa]at bG;have il:=Y.trans bo;clear Q O J qg cj;exact Pz
  ·have ba:¬(j:Int)<(s.length:Int):=af;obtain rfl:j=s.length:=af;rw[mC]at hO;have HF:Hid (Fx M (λW=>ar vE R _ W) wr):=ae (by rw[HL.aa];exact hO.fx λk hk=>bB (HM.aa k hk) u.size);have kF:=u.tr t;clear hO;go_wp2;go_ret;exact⟨_,rfl,HF.aa,kF⟩
def findF(t:bz)(is:Bool)(_:Nat)(xs:Array Value)(c:Value)(_:World):Prop:=∃vf h,xs=fW t vf h/\c=.bool is/\(∃A k,vf=.slice A t.e.f.length k)/\∃A k,h=.slice A t.e.es.length k
abbrev akR:Array Value:=fW wq (.slice none 0 0) (.slice none 0 0)
theorem aoQ{M:Nat->Prop}{p:cV}{B:aB}{w:World}(h:bC M p B w)(hG:bH B)(a:av) :
 Calls prog 13 #[.pointer (some ⟨p.g,0,none⟩),cN a] w λe w'=>e=.returned (.int .i64 (Dy B a))/\K w w':=by
 have HR:Hid (Dy B a=if cA B.st.list a then 3 else if sS B a then 4 else if (vW B.aK a).2 then (if (vW B.aK a).1.asked then 2 else 1)else 0):=ae rfl
 have H:=ae h
 have HG:=ae hG
 have Q:K w (w.alloc (.cells #[.int .i64 a.1,.int .u64 (a.2.1:Int),.int .u64 (a.2.2:Int)] 46)):=(K.rf w).al _
 have hb:=ai.new w 46 #[.int .i64 a.1,.int .u64 (a.2.1:Int),.int .u64 (a.2.2:Int)]
 have E:=ae λW (k:K w W)=>ap7 B.aK a p.vt W (h.bL.at k).aK hG.tx.small ahY
 have A:=ae λW (k:K w W)=>AW B.st a (.agg (bS B.st p.vl p.vq p.va)) W ⟨_,_,_,rfl,(h.bL.at k).list,(h.bL.at k).prom,(h.bL.at k).ab⟩ Bf
 have hs1:=az h.bL.now.list
 have dX:=az h.bL.now.prom
 have dF:=az h.bL.now.ab
 have hs4:=az h.bL.now.aK
 have q:=h.q
 obtain⟨g,gl,gd,gr,gt,vd,vr,vp,vh,vl,vq,va,vt,vf,vw,kr⟩:=p
 simp only at q E A hs1 dX dF hs4
 obtain⟨Al,cl,rfl⟩:=hs1
 obtain⟨Ap,cp,rfl⟩:=dX
 obtain⟨Aa,ca,rfl⟩:=dF
 obtain⟨At,ct,rfl⟩:=hs4
 obtain⟨L,lf⟩:∃L,L=vW B.aK a:=⟨_,rfl⟩
 obtain⟨T,hhl⟩:∃T,T=cA B.st.list a:=⟨_,rfl⟩
 obtain⟨J,Y⟩:∃J,J=sS B a:=⟨_,rfl⟩
 simp only[<- lf,<- hhl,<- Y]at E A HR
 have HA:=ae Y
 obtain⟨tx,is⟩:=L
 clear h hG lf hhl Y
 generalize Dy B a=R at *
 go_enter func13,ntmps13
 go_upto_region 3 with (fail)
 generalize w.alloc _=w1 at *
 generalize w.heap.size=ga at hb⊢
 have I:=hb.cells
 have Z:=λW (k:K w1 W)=>q W (Q.tr k)
 have C3:=ae λW (k:K w1 W)=>E.aa W (Q.tr k)
 clear hb E q
 refine aaY 106 akR (λi=>[Value.pointer (some ⟨g,0,none⟩),.pointer (some ⟨g,0,none⟩),.pointer (some ⟨g,8,none⟩),.slice At B.aK.length ct,cN a].getD i undef) (findF tx is)
  [([],[]),([0],[(10,0)]),([1],[(11,1)]),([2],[(12,2)]),([],[]),([3,4],[(13,3),(14,4)]),([5],[(15,5)]),([6],[(9,6)]),([6],[(9,6)]),([],[]),([7,9],[(5,9),(16,7)]),([8],[(17,8)])] 40 #[.slice At B.aK.length ct,cN a] 37 rfl ak ak ak rfl rfl ?gd ?pre ?call ?cc ?h6 ?h7 ?h8 ?h9 ?nf ?uz ?hk ?hlow ?_
 case gd=>simp
 case pre => intro i hi V W kW hp;have:i=0∨i=1∨i=2∨i=3∨i=4:=af;rcases this with rfl|rfl|rfl|rfl|rfl <;> simp at hp <;> simp[lJ,aw,List.lookup,hp,execOp,ay,Z,I,kW,go_sem]
 case call=>intro V W kW h3 h4;simp at h3 h4;simp[lJ,aw,List.lookup,h3,h4,execOp,ay,go_sem]
 case cc => intro W kW;refine (C3.aa W kW).mono ?_;rintro e w3⟨u,rfl,⟨vf,ve,rfl,hf,he⟩,k3⟩;obtain⟨U,X,rfl⟩:=cB hf;obtain⟨S,ce,rfl⟩:=az he;exact⟨_,_,rfl,⟨_,_,rfl,rfl,⟨_,_,rfl⟩,⟨_,_,rfl⟩⟩,k3⟩
 case h6=>intro V W v t;simp[lJ,aw,List.lookup,t,execOp,ay,go_sem]
 case h7=>intro V W xs c t;simp[lJ,aw,List.lookup,t,execOp,ay,go_sem]
 case h8=>intro V W xs c t;simp[lJ,aw,List.lookup,t,execOp,ay,go_sem]
 case h9=>intro V W;simp[lJ,execOp,ay,go_sem];rfl
 case nf => rintro V W b lo xs c W0 D G hb⟨vf,ve,rfl,-,⟨U,X,rfl⟩,S,ce,rfl⟩;show ∃j,(execOp (aw [(5,9),(16,7)] _ V) (ay (.store 106 (.tmp 5) (.tmp 16)) _)).run prog W=_/\_/\_;exact ab1 (.tmp 5) (.tmp 16) 106 _ 106 b 0 akR (fW tx (.slice U tx.e.f.length X) (.slice S tx.e.es.length ce)) (by simp[aw,List.lookup,D]) (by simp[aw,List.lookup,G]) hb ak aj afF
 case uz=>intro V W c t;simp[lJ,aw,List.lookup,t,execOp,ay,go_sem]
 case hk=>exact λlo xs c W j h k=>h
 case hlow=>exact λlo xs c W j b h hb u=>h
 intro V W b xs c lo kW hcs e5 e6 G e8 D rN bN hbk hlo Az
 obtain⟨vf,ve,rfl,rfl,⟨U,X,rfl⟩,S,ce,rfl⟩:=Az
 simp only[bF,Act.put,cO,cM,cL,e5,e6,G,e8,D,rN]
 have y:=Q.tr kW
 have q2:=λj (k:K W j)=>Z j (kW.tr k)
 have pJ:=λj (k:K W j)=>I j (kW.tr k)
 have O:=hbk.cells
 have C4:=ae λj (k:K W j)=>A.aa j (y.tr k)
 have F:=ae λj (k:K W j)=>Tb (H.aa.st (y.tr k)) HG.aa a
 simp only[<- HA.aa]at F
 clear hcs e5 e6 G e8 D rN Z I A C3 hbk HA H HG
 go_upto_region 4 with (fail)
 cases T
 rotate_left
 ·have HF:Hid (R=3):=ae fo;refine eM 7 [([],[]),([0],[(19,0)]),([1],[(20,1)]),([2],[(21,2)]),([],[]),([3,4],[(22,3),(23,4)]),([5],[(24,5)])] 37 rfl ak ak ak ak au ?_;simp only[dR,dN,ew,dP];iterate 5 (apply aV.is;intro V W kW hp;(try simp only[aI,aJ,aM,aE,aF,ag]at hp);simp[aL,aw,List.lookup,hp,aS,execOp,ay,ag,aN,kW,q2,pJ,go_sem];rfl)
  refine aV.is (.bool true) (λV W kW hp=>?_) ?_
  ·(try simp only[aI,aJ,aM,aE,aF,ag]at hp)
   exact ahZ
  (apply aV.is;intro V W kW hp;(try simp only[aI,aJ,aM,aE,aF,ag]at hp);simp[aL,aw,List.lookup,hp,aS,execOp,ay,ag,aN,kW,q2,pJ,go_sem];rfl)
  intro V W kW s;simp only[aJ,aM,eA,ag,Nat.reduceAdd]at s;refine bu.nil ?_;simp only[bF,Act.put,cO,cM,cL,Nat.reduceAdd,s];have kF:=y.tr kW;clear s q2 pJ F O HR;go_wp2;exact DC
 refine eM 7 [([],[]),([0],[(19,0)]),([1],[(20,1)]),([2],[(21,2)]),([],[]),([3,4],[(22,3),(23,4)]),([5],[(24,5)])] 37 rfl ak ak ak ak au ?_
 simp only[dR,dN,ew,dP]
 iterate 5 (apply aV.is;intro V W kW hp;(try simp only[aI,aJ,aM,aE,aF,ag]at hp);simp[aL,aw,List.lookup,hp,aS,execOp,ay,ag,aN,kW,q2,pJ,go_sem];rfl)
 refine aV.is (.bool false) (λV W kW hp=>?_) ?_
 ·(try simp only[aI,aJ,aM,aE,aF,ag]at hp)
  exact ahZ
 (apply aV.is;intro V W kW hp;(try simp only[aI,aJ,aM,aE,aF,ag]at hp);simp[aL,aw,List.lookup,hp,aS,execOp,ay,ag,aN,kW,q2,pJ,go_sem];rfl)
 intro V W kW s
 simp only[aJ,aM,eA,ag,Nat.reduceAdd]at s
 refine bu.nil ?_
 simp only[bF,Act.put,cO,cM,cL,Nat.reduceAdd,s]
 have kF:=y.tr kW
 have C6:=ae (F.aa W kW)
 have qa3:=λi=>pJ W kW i
 have N:=ae λj (k:K W j)=>O j (kW.tr k)
 clear s q2 pJ F O C4 y
 go_wp2_with fail
 refine C6.aa.mono ?_
 rintro e w9⟨rfl,k9⟩
 have kG:=kF.tr k9
 clear C6
 cases J
 rotate_left
 ·have HF:Hid (R=4):=ae fo;clear HR;exact PG
 have C:=N.aa w9 k9
 have HE:Hid (R=if is then (if tx.asked then 2 else 1)else 0):=ae fo
 clear HR qa3
 cases wN:is
 ·have HF:Hid (R=0):=ae (by rw[HE.aa,wN];rfl);exact PG
 cases Yn:tx.asked
 ·have HF:Hid (R=1):=ae ah0;have q8:w9.cell? ⟨b,8,none⟩=some (.bool false):=(C 8).trans (by simp[fW,Yn]);clear C N;exact PG
 ·have HF:Hid (R=2):=ae ah0;have q8:w9.cell? ⟨b,8,none⟩=some (.bool true):=(C 8).trans (by simp[fW,Yn]);clear C N;exact PG
