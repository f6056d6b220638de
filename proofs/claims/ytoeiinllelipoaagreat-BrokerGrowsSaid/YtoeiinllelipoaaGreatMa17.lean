/-
  The walk of stage.Publish (layer 17). Conditions: lists of at most a million.
-/
import Derived.Test.YtoeiinllelipoaaGreatMa16
import Derived.Test.YtoeiinllelipoaaGreatMz
set_option maxRecDepth 100000
set_option maxHeartbeats 16000000
set_option linter.unusedVariables false
set_option linter.unusedSimpArgs false
namespace Go.Proofs.YtoeiinllelipoaaGreat
open Go Go.RowKit Tryz
theorem ap8(l:List bz)(a:av)(y:List bh)(v u:Value)(w:World)(h:ar cJ l v w)(L:ik y u w)(hl:∀s∈l,eD s.e)(yd:∀s∈l,cK s.e)(jB:y.length<=1000000)(LI:∀x∈y,mV x)(hlen:l.length<=1000000) :
 Calls prog 72 #[v,cN a,u] w λe w'=>∃v',e=.returned (.tuple #[v',.int .i64 (nv l a y).2])/\(∀W,aH w.heap.size none w' W->ar cJ (nv l a y).1 v' W)/\K w w':=by
 have C1:=ae λW (kW:K w W)=>JS l v W (aW h kW) hl hlen
 have C2:=ae λW (kW:K w W)=>TL l a v W (aW h kW) hlen
 have C3:=ae λW (kW:K w W)=>abQ (mR _ _ _ _ L kW)
 obtain⟨A,d,rfl,yr,-⟩:=h
 have HU:Hid (∀W,K w W->ik y u W):=ae λW k=>mR _ _ _ _ L k
 obtain⟨Ae,ce,rfl⟩:=vN L
 clear L
 have hx:=ai.new w 46 #[.int .i64 a.1,.int .u64 (a.2.1:Int),.int .u64 (a.2.2:Int)]
 have k1:K w (w.alloc (.cells #[.int .i64 a.1,.int .u64 (a.2.1:Int),.int .u64 (a.2.2:Int)] 46)):=(K.rf w).al _
 have HI:Hid (y6 l a=match qR l a with|some k=>(k:Int)|none=>-1):=ae rfl
 have HC:Hid (nv l a y=match qR l a with|none=>(l,170)|some k=>match l[k]? with|none=>(l,170)|some t=>if fK y=false then (l,40)else if 8<=t.e.es.length then (l,171)else if qX (mE t.e y)then (l,172)else (l.set k ⟨mE t.e y,t.asked⟩,0)):=ae rfl
 have HO:=ae λk h=>@Ob l a k h
 have RE:=ae LI
 clear LI
 generalize nv l a y=R at *
 have q:=hx.cells
 go_enter func72,ntmps72
 go_wp2
 go_step3
 go_wp2_with fail
 generalize w.alloc _=w1 at *
 refine (C1.aa w1 k1).mono ?_
 rintro e w2⟨u8,rfl,H,k2⟩
 have bw:=k1.tr k2
 generalize y6 l a=I at *
 replace q:=hx.below k2 hx.lt
 replace q:=ai.cell q
 go_wp2_with fail
 refine (C2.aa w2 bw).mono ?_
 rintro e w3⟨rfl,k3⟩
 replace bw:=bw.tr k3
 replace H:=H.st k3
 have lP:=k1.size
 have Cp:=ae λ(W B:World) (h:aX w1.heap.size w1.heap.size 106 cJ l u8 W) (u:aH w.heap.size none W B)=>(h.up (aG _) (u.more lP (λk _ h=>h))).ar
 clear C1 C2 k3 k2 hx q
 cases ho:qR l a with
 | none =>
  obtain rfl:I=-1:=yV;have HQ:Hid (R=(l,170)):=ae K1;have HW:=ae λW u=>Cp.aa _ W H u
  clear H ho HI HC HO;go_wp2;go_step3;exact Fg
 | some k =>
  obtain rfl:I=(k:Int):=yV;obtain⟨t,h1,-⟩:=HO.aa k ho;have HR:Hid (R=if fK y=false then (l,40)else if 8<=t.e.es.length then (l,171)else if qX (mE t.e y)then (l,172)else (l.set k ⟨mE t.e y,t.asked⟩,0)):=ae V4;obtain⟨hk,Ai⟩:=List.getElem?_eq_some_iff.1 h1;have eF:(k:Int)<(l.length:Int):=af;have aDm:(0:Int)<=(k:Int):=af;clear ho HI HC HO h1;go_wp2;go_step3;go_wp2_with fail
  refine (C3.aa w3 bw).mono ?_;rintro e G⟨rfl,k4⟩;replace H:=H.st k4;replace bw:=bw.tr k4;cases hok:fK y
  ·have HQ:Hid (R=(l,40)):=ae (by rw[HR.aa,if_pos hok]);have HW:=ae λW u=>Cp.aa _ W H u
   have ay5:jm y=40:=by unfold jm;rw[hok];rfl
   rw[ay5];clear H HR;exact Fg
  have hc0:jm y=0:=by unfold jm;rw[hok];rfl
  rw[hc0];have ir:Hid (R=if 8<=t.e.es.length then (l,171)else if qX (mE t.e y)then (l,172)else (l.set k ⟨mE t.e y,t.asked⟩,0)):=ae (by rw[HR.aa,if_neg (by rw[hok];decide)]);clear HR;obtain⟨b1,off,cs,rfl,hcl,hrl,d0,d⟩:=dM yr k hk au;have hst:=hl _ (bW hk);have N:=yd _ (bW hk);rw[Ai]at hrl hst N;obtain⟨vf,ve,rfl,hf,he⟩:=hrl w (K.rf w);have HE:Hid (∀W,K w W->cR t.e (.agg (aA t.e vf ve)) W):=ae λW k=>⟨_,_,rfl,dB _ _ _ _ hf k,aW he k⟩
  have d0:∀W,K w W->W.cell? ⟨b1,off+k*9,none⟩=some (.int .i64 t.e.kind):=d0;have d:∀W,K w W->∀i,i<9->W.cell? ⟨b1,off+k*9+i,none⟩=(fW t vf ve)[i]?:=λW kk i hi=>(d W kk i hi).trans Array.getElem?_toList
  clear hrl hcl hf he;have q:=d _ bw;go_wp2_with fail
  refine (NX t.e _ G (HE.aa _ bw) hst).mono ?_;rintro e Q⟨v5,rfl,jq,k5⟩;obtain⟨Jw,O,rfl,M0,Zw⟩:=jq;obtain⟨A5,c5,rfl,-⟩:=M0.slice;obtain⟨D5,d5,rfl,-⟩:=Zw.slice;have di:=ai.new Q 102 (aA t.e (.slice A5 t.e.f.length c5) (.slice D5 t.e.es.length d5));have k6:K Q (Q.alloc (.cells (aA t.e (.slice A5 t.e.f.length c5) (.slice D5 t.e.es.length d5)) 102)):=(K.rf Q).al _;go_upto_region 8 with (fail);generalize Q.alloc _=w6 at *;have Zx:=k5.tr k6;have oX:=bw;replace bw:=bw.tr Zx;have q6:=di.cell;clear q;by_cases h8:8<=t.e.es.length
  ·have wI:(8:Int)<=(t.e.es.length:Int):=af;have HQ:Hid (R=(l,171)):=ae (by rw[ir.aa,if_pos h8]);have HW:=ae λW u=>Cp.aa _ W (H.st Zx) u
   clear H ir M0 Zw;exact Fg
  have wI:¬(8:Int)<=(t.e.es.length:Int):=af;have Aj:Hid (R=if qX (mE t.e y)then (l,172)else (l.set k ⟨mE t.e y,t.asked⟩,0)):=ae (by rw[ir.aa,if_neg h8]);clear ir;go_upto_region 10 with (fail);obtain⟨css,hown,ay6,Ra⟩:=Zw;have Fs:=fZ hown k6;have aDn:=k5.size;obtain⟨E,lN⟩:∃E,E=Q.heap.size:=⟨_,rfl⟩;rw[<- lN]at di q6⊢;have aDo:=di.lt;obtain⟨Y,hgb⟩:∃Y,Y=w6.heap.size:=⟨_,rfl⟩;have XJ:∀b,(Value.slice D5 t.e.es.length d5).ownBlock=some b->G.heap.size<=b/\b<E:=λb hb=>by have:=hown.lt b hb;omega
  have hrow:∀b,(Value.slice D5 t.e.es.length d5).ownBlock=some b->b<Y:=λb hb=>by have:=XJ b hb;omega
  have hnF:∀b,(Value.slice A5 t.e.f.length c5).ownBlock=some b->(Value.slice D5 t.e.es.length d5).ownBlock≠some b:=by intro b hb hb2;obtain⟨cur,h1⟩:=gg M0 hb;obtain⟨IV,D⟩:=gg hown hb2;exact absurd (h1.ja D) au
  generalize Ck:Value.slice D5 t.e.es.length d5=O at *;generalize GF:Value.slice A5 t.e.f.length c5=Jw at *;have HX:Hid (∀B ,aH G.heap.size O.ownBlock Q B->eJ t.e.f Jw B/\Each dJ t.e.es css B):=ae λB u=>⟨sU (Dm M0 λg h1 D h3=>u.block g h1 D (λe=>hnF g h3 e.symm)),Ra B u⟩
  obtain⟨C,hC⟩:∃C:World->Prop,C=λW=>K G W/\Y<=W.heap.size/\ai W E 102 (aA t.e Jw O)/\aH 0 O.ownBlock Q W:=⟨_,rfl⟩
  have hg:∀W B,C W->Below W.heap.size W B->C B:=by subst hC;rintro W B⟨h1,h0,D,h3⟩ hb;exact⟨h1.tr hb,bq h0 hb.size,D.below hb D.lt,h3.tr (aH.bg hb _ _)⟩
  have hc0:C w6:=by rw[hC];exact⟨Zx,by omega,di,aH.bg k6 _ _⟩
  have akH:Hid (∀W,K G W->K w W):=ae λW k=>oX.tr k
  obtain⟨F,hF⟩:∃F:World->Prop,F=λW=>∃D9 J,K G W/\ai W E 102 (aA (mE t.e y) Jw (.slice D9 (t.e.es.length+1) J))/\∀B,ah (λk=>k<G.heap.size∨k=E) W B->eJ t.e.f Jw B/\ar dJ (t.e.es++[y]) (.slice D9 (t.e.es.length+1) J) B:=⟨_,rfl⟩
  refine Hr 5 7 C (λW=>W.ownsRow G.heap.size 34 1 O t.e.es.length css.flatten) (λ_=>True) (λW B=>W.grownBy B O.ownBlock) F [ag (.pointer (some ⟨E,7,none⟩)),
   ag O,
   ag (.slice Ae y.length ce),
   MY Y y,
   MZ Y 34 y,
   Zv Y G.heap.size 34 t.e.es.length css.flatten y,
   ag (.pointer (some ⟨E,7,none⟩)),
   xK]
   [([],[]),([0],[(34,0)]),([],[]),([2],[(36,2)]),([3],[(37,3)]),([1,4],[(35,1),(38,4)]),([5],[]),([6,5],[(40,6),(39,5)])] 50 rfl ak ak ak au au au ak hg (λW B h k=>fZ h k) (λ_ _ h _=>h) tS (fZ Fs (Below.drew (aN _ _))) ?st ?st2 ?ow ?_
  case st =>
   simp only[aI]
   and_intros
   all_goals first|exact jN _|exact mz|exact axi _ _|exact axj _ _ _|exact axk _ _ _ _ _ _|simp
  case st2 =>
   simp only[List.zipIdx_cons,List.zipIdx_nil,aI,fP,Nat.reduceAdd]
   and_intros
   all_goals first|exact .inl rfl|exact .inr (λ_ _ _ h _=>h)|exact .inr (awb hrow)|exact .inr (awc hrow)|simp
  case ow =>
   simp only[xE,nZ]
   and_intros
   all_goals try trivial
   all_goals
    simp only[Nat.reduceEqDiff,if_false,Nat.reduceAdd]
   all_goals
    first
    | (intro V w' hc hD U
       simp only[aI,aE,aF,ag]at U
       rw[hC]at hc
       obtain⟨kw,eC,iz,L⟩:=hc)
    | (intro V w' hc U
       rw[hC]at hc
       obtain⟨kw,eC,iz,L⟩:=hc
       have q:=iz.cell
       try simp only[aI,aE,aF,ag]at U
       try (simp[aL,aw,List.lookup,U,aE,aF,aS,execOp,ay,ag,undef,aN,q,go_sem];done))
    | skip
   ·obtain⟨D,-⟩:=U;rw[if_pos (show aL V none=true from rfl)];obtain⟨vC,vD,e2,bE⟩:=HU.aa w' (akH.aa _ kw);rw[e2]at D;obtain⟨v',w'',hrun,h1,h5,h3⟩:=acE (P:=prog) (ρ:=aw [(36,2)] _ V) (.const (.slice none 0 0)) (.tmp 36) 34 34 84 w'.heap.size _ 4 48 TE (.slice none 0 0) 0 [] rfl (iF _ _ _ _) w'.heap.size vC y.length vD (y.flatMap jQ) D bE (Um y) af (aG _);rw[hrun];have ho:po w'' w'.heap.size v' y:=Ip;exact⟨λB u=>by
     obtain⟨v2,T,h9⟩:=po.rel ho B (u.more eC (λ_ _ _=>aj));injection T with T;rw[T];exact h9,h5⟩
   ·obtain⟨h3,-⟩:=U;obtain⟨A3,c3,T⟩:=vN (h3 w' (aH.rf _ _ _));simp[aL,aw,List.lookup,T,aE,aF,aS,execOp,ay,undef,go_sem];exact⟨⟨w'.heap.size,_,rfl,eC,ai.new _ _ _,λB u=>by rw[<- T];exact h3 B ((aH.bg ((K.rf w').al _) _ _).tr u)⟩,(K.rf w').al _⟩
   ·obtain⟨h1,⟨g',u,h4,hg',hb,RG⟩,-⟩:=U;have hR:Reads w' w'.heap.size 1 (some ⟨g',0,none⟩) 1 [u]:=⟨rfl,λ_=>⟨g',0,rfl,hb.lt,λj u' hu'=>by
     rw[fP,hb.cell j];simpa using hu'⟩⟩
    have h1u:∀x∈[u],x.oneCell'=true:=by obtain⟨A3,c3,T⟩:=vN (RG w' (aH.rf _ _ _));intro x hx;simp at hx;subst hx;rw[T];rfl
    obtain⟨v',w'',hrun,h7,h5,h3⟩:=acE (P:=prog) (ρ:=aw [(35,1),(38,4)] _ V) (.tmp 35) (.tmp 38) 69 69 34 G.heap.size _ 1 24 Ml O t.e.es.length css.flatten h1 hD w'.heap.size (some ⟨g',0,none⟩) 1 1 [u] h4 hR h1u af af;rw[hrun];refine⟨⟨u,h7,λB up=>RG B ((aH.row h3 hrow).tr up)⟩,?_,trivial,h3⟩;rw[hC];exact⟨kw.trans h5,V1,iz.grown h3 (λe=>by have:=XJ E e.symm;omega),L.tr (aH.fM h3 0)⟩
   ·obtain⟨h6,⟨u,Z,RG⟩,-⟩:=U;have hgt:∀b,(V 5).ownBlock=some b->b≠E:=by intro b hb e;subst e;obtain⟨cur,h1⟩:=gg Z hb;exact absurd (h1.ja iz) au
    have axl:=Z;rcases Z.2 with ⟨-,h0⟩|⟨g9,J,aDp,e9,-⟩
    ·omega
    have z:=iz.frozen;have q:=iz.cell;generalize hA:aw [(40,6),(39,5)] _ V=fu;have zP:fu (.tmp 40)=.pointer (some ⟨E,7,none⟩):=Iw;have sF:fu (.tmp 39)=.slice (some ⟨g9,0,none⟩) (t.e.es.length+1) J:=by rw[<- hA];exact e9
    have qC:(execOp fu (ay (.store 69 (.tmp 40) (.tmp 39)) 0)).run prog w'=.ok .skip (w'.setCell ⟨E,7,none⟩ (.slice (some ⟨g9,0,none⟩) (t.e.es.length+1) J)):=by exact Ix
    rw[qC];have bo:=iz.aR 7 (.slice (some ⟨g9,0,none⟩) (t.e.es.length+1) J);have us:ah (λk=>k=E) w' (w'.setCell ⟨E,7,none⟩ (.slice (some ⟨g9,0,none⟩) (t.e.es.length+1) J)):=ah.sets (X:=λk=>k=E) (g:=E) rfl [_] 7 w';generalize w'.setCell _ _=w'' at *;show F w'';rw[hF];refine⟨some ⟨g9,0,none⟩,J,?_,bo,λB up=>?_⟩
    ·exact aH.k (us.iK (lo:=0) (row:=some E) (λk _ _ h e=>h Dv)) kw ag8
    ·have key:∀k,G.heap.size<=k->k<w'.heap.size->k≠E->B.heap[k]?=w'.heap[k]?:=λk h1 D h3=>(up.block k (bB D us.size) af).trans (us.block k D h3)
     have u5:aH G.heap.size O.ownBlock Q B:=⟨(up.os.trans us.os).trans L.os,(up.tape.trans us.tape).trans L.tape,(up.output.trans us.output).trans L.output,bq L.size (bq us.size up.size),λk h1 D h3=>(key k h1 (bB D L.size) af).trans (L.block k (fw _) D h3)⟩;have ub:aH Y none w' B:=⟨up.os.trans us.os,up.tape.trans us.tape,up.output.trans us.output,bq us.size up.size,λk h1 D _=>key k af D af⟩;obtain⟨FZ,Cu⟩:=HX.aa B u5;refine⟨FZ,?_⟩;have XK:=Dm (w':=B) axl (λg h1 D h3=>key g h1 D (hgt g h3));rw[e9]at XK;have ay7:dJ.rel y [u] B:=⟨u,rfl,RG B ub⟩;have:=Cu.snoc ay7;have hl:(t.e.es++[y]).length=t.e.es.length+1:=aj;rw[<- hl]at XK⊢;exact AU (S:=dJ) (css:=css++[[u]]) awd this
  intro V W mJ;rw[hF]at mJ;obtain⟨D9,J,kW4,bo,hN⟩:=mJ;have kW:=akH.aa _ kW4;have q:=bo.cell;have M3:cK (mE t.e y):=⟨N.1,N.2.1,N.2.2.1,N.2.2.2.1,N.2.2.2.2.1,N.2.2.2.2.2.1,N.2.2.2.2.2.2.1,λe he=>by
   rcases List.mem_append.1 he with h1|h1
   ·exact N.2.2.2.2.2.2.2 e h1
   ·simp at h1;subst h1;exact RE.aa⟩
  have C4:=ae (acK (mE t.e y) (.agg (aA (mE t.e y) Jw (.slice D9 (t.e.es.length+1) J))) W ⟨_,_,rfl,(hN W (ah.rf _ _)).1,(hN W (ah.rf _ _)).2⟩ M3);have HN:=ae hN;have HOW:=ae (H.st kW4);have ax6:=ae λg h=>(H.blk g h).2
  have wM:=ae (show w.heap.size<=G.heap.size from oX.size);clear hF hC hg hc0 HX hnF hrow XJ hown Fs Ra ay6 H hN M0 N hst M3 lN hgb;simp only[bF,Act.put,cO,cM,cL];subst GF;go_wp2_with fail
  refine C4.aa.mono ?_;rintro e M⟨rfl,k8⟩;have RH:=ae (HOW.aa.st k8);have My:=kW.tr k8;have mM:=bo.below k8 bo.lt;clear q bo;cases Yf:qX (mE t.e y);rotate_left
  ·have HQ:Hid (R=(l,172)):=ae ag9;have HW:=ae λW u=>Cp.aa _ W RH.aa u
   clear Yf Aj RH HOW;go_wp2;try rw[gS]
   go_ret2;exact⟨_,jL,Fh,My⟩
  have HQ:Hid (R=(l.set k ⟨mE t.e y,t.asked⟩,0)):=ae ag9;have H:=RH.aa;have hkb:=H.blk;obtain⟨Qw,Qd,ay8,Zy⟩:=H;have RI:=Zy M (aH.rf _ _ _);have rY:=RI.lens;have hkc:k<Qw.length:=af;have cC:=RI.DX;obtain⟨vfo,veo,hcs,-,-⟩:=RI.2 k hk hkc;rw[Ai]at hcs;rcases Qd.2 with ⟨h0,xY⟩|⟨go,cap,cur,rfl,-⟩
  ·omega
  have hgo:=(hkb go rfl).1;have ay9:go<G.heap.size:=ax6.aa go rfl;have hqO:k*9+9<=Qw.flatten.length:=by rw[cC];show k*9+9<=l.length*9;omega
  obtain⟨hcell,hfz⟩:=EW Qd;have dO:∀i,i<9->M.cell? ⟨go,k*9+i,none⟩=(fW t vfo veo)[i]?:=λi hi=>by rw[hcell _ af,show k*9+i=k*cJ.size+i from rfl,vK cJ.size Qw rY k i hkc hi,List.getElem?_eq_getElem hkc,Option.getD_some,hcs];exact Array.getElem?_toList
  have dO0:M.cell? ⟨go,k*9,none⟩=some (.int .i64 t.e.kind):=dO 0 af;have zO:=λi=>hfz (k*9+i)
  have zO0:=hfz (k*9);have q:=mM.cell;obtain⟨rZ,Qe⟩:∃rZ:List Value,rZ=(aA (mE t.e y) (.slice A5 t.e.f.length c5) (.slice D9 (t.e.es.length+1) J)).toList:=⟨_,rfl⟩;have Zz:rZ.length=8:=by rw[Qe];rfl
  have Z:=OA rZ _ (k*9) M Qd (by rw[Zz];omega);have e9:=NW cJ.size rZ Qw rY k 0 hkc (by rw[Zz];decide);rw[show k*cJ.size+0=k*9 from rfl]at e9;rw[e9,hcs]at Z;have gX:pW (fW t vfo veo).toList 0 rZ=(fW ⟨mE t.e y,t.asked⟩ (.slice A5 t.e.f.length c5) (.slice D9 (t.e.es.length+1) J)).toList:=by rw[Qe];rfl
  rw[gX]at Z;have uG:ah (λk=>k=go) M (fN M go (k*9) rZ):=ah.sets (X:=λk=>k=go) (g:=go) rfl rZ (k*9) M;have uX:ah (λk=>k<G.heap.size∨k=E) M (fN M go (k*9) rZ):=ah.sets (X:=λk=>k<G.heap.size∨k=E) (g:=go) (.inl ay9) rZ (k*9) M;have HK:Hid (K w (fN M go (k*9) rZ)):=ae (aH.k (uG.iK (lo:=0) (row:=some go) (λk _ _ h e=>h Dv)) My ag8);have HW:Hid (∀B,aH w.heap.size none (fN M go (k*9) rZ) B->ar cJ (l.set k ⟨mE t.e y,t.asked⟩) (.slice (some ⟨go,0,none⟩) l.length cap) B):=ae λB u=>by have h9:=HN.aa _ (((ah.bg k8 _).tr uX).tr (aH.Ei u (λk hk=>by rcases hk with hk|hk;exact .inl (by omega);cases hk)));have ZA:=(Zy _ ((uG.iK (λk _ _ h e=>h (by rw[e];rfl))).tr (u.more lP (λk _ _=>aj)))).set k (x:=⟨mE t.e y,t.asked⟩) (cs:=(fW ⟨mE t.e y,t.asked⟩ (.slice A5 t.e.f.length c5) (.slice D9 (t.e.es.length+1) J)).toList) ⟨_,_,rfl,h9.1,h9.2⟩;exact AU (S:=cJ) (Dm (by rw[List.length_set];exact Z) λg h1 D _=>u.block g af D aj) ZA
  rw[Qe]at HW HK;clear hcell hfz Qd Z Zy rY cC hkb HN uG uX e9 gX Zz Qe RI hcs ay8 hqO RH HOW Aj Yf Ai HU;go_wp2;try rw[gS]
  go_ret2;exact⟨_,jL,Fh,HK.aa⟩
theorem bu.call{P:Program}{i:Act}{E:(Nat->Value)->World->Prop}{k:Nat}{o:Oper}{r:List Oper}{x:List Nat×List (Nat×Nat)}{xs:List (List Nat×List (Nat×Nat))}{V:Nat->Value}{w:World}
 (f:FuncId) (j:Array Value) (hg:o.guard=none) (s:(execOp (aw x.2 i V) (ay o.op o.type)).run P w=.ok (.enter f j) w) (h:Calls P f j w λe t=>∃v,e=.returned v/\bu P i E (k+1) r xs (bj V k v) t):bu P i E k (o :: r) (x :: xs) V w:=by
 unfold bu
 rw[hg,if_pos (show aL V none=true from rfl),s]
 exact h
theorem jF.BL{l:List bz}(h:jF l):l.length<=1000000:=by have:=h.len;omega
theorem aoK{M:Nat->Prop}{p:cV}{B:aB}{w:World}(h:bC M p B w)(s:bH B)(a:av) :
 Calls prog 25 #[.pointer (some ⟨p.g,0,none⟩),cN a] w λe w'=>e=.returned (.int .i64 (gF B (ny B.aK a)).2)/\cW M p (gF B (ny B.aK a)).1 w w':=by
 have C1:=ae λW (k:K w W)=>ark B.aK a p.vt W (h.bL.at k).aK s.tx.small s.tx.BL
 have H:=ae h
 have hz:=λk hk=>h.low k hk
 have I:=ae λk hk=>h.low k (h.sub k hk)
 have u:=ae λW (k:K w W) v G=>Tv (h.st k) (l:=(ny B.aK a).1) (v:=v) (ny B.aK a).2 G
 have q:=h.q
 have k1:K w (w.alloc (.cells #[.int .i64 a.1,.int .u64 (a.2.1:Int),.int .u64 (a.2.2:Int)] 46)):=(K.rf w).al _
 have hb:=ai.new w 46 #[.int .i64 a.1,.int .u64 (a.2.1:Int),.int .u64 (a.2.2:Int)]
 have D:=az h.bL.now.aK
 obtain⟨g,gl,gd,gr,gt,vd,vr,vp,vh,vl,vq,va,vt,vf,vw,kr⟩:=p
 simp only at q C1 D
 obtain⟨Q,ct,rfl⟩:=D
 generalize J:ny B.aK a=R at *
 obtain⟨j,rc⟩:=R
 have L:=ae hz
 clear h s J hz
 go_enter func25,ntmps25
 go_upto_region 1 with (fail)
 generalize w.alloc _=i at *
 generalize w.heap.size=T at hb⊢
 have qa:=hb.cells
 have q1:=λW (k:K i W)=>q W (k1.tr k)
 clear q hb
 go_upto_region 3 with (fail)
 refine eM 9 [([],[]),([],[]),([1],[(8,1)]),([2],[(9,2)]),([3],[(10,3)]),([],[]),([4,5],[(11,4),(12,5)]),([6],[(13,6)]),([6],[(13,6)]),([0,6,7,8],[(7,0),(14,7),(15,8)]),([0,1,2,3,4,5,6,7,8,9],[(16,9)])] 17 rfl ak ak ak ak au ?_
 simp only[dR,dN,ew,dP]
 iterate 6 (apply aV.is;intro V W kW hp;(try simp only[aI,aJ,aM,aE,aF,ag]at hp);simp[aL,aw,List.lookup,hp,aS,execOp,ay,ag,aN,kW,q1,qa,go_sem];rfl)
 refine aV.op (λv W=>∃v',v=.tuple #[v',.int .i64 rc]/\aX i.heap.size i.heap.size 106 cJ j v' W) (λ_ _ _ ⟨v',e,h⟩ k=>⟨v',e,h.st k⟩) (λV W kW hp=>?_) ?_
 ·(try simp only[aI,aJ,aM,aE,aF,ag]at hp)
  exact aha
 refine aV.op (λv W=>aX i.heap.size i.heap.size 106 cJ j v W) (λ_ _ _ h k=>h.st k) (λV W kW hp=>?_) ?_
 ·exact K2
 refine aV.is (.int .i64 rc) (λV W kW hp=>?_) ?_
 ·exact K3
 intro V W kW A
 simp only[aJ,aM,eA,ag,Nat.reduceAdd]at A
 obtain⟨e0,O,X,S,U,N,⟨v',Y,F⟩,hO,e8,-⟩:=A
 have y:=k1.tr kW
 have C:Fx M (λW=>ar cJ j (V 7) W) W:=(aX.sG hO).fx (λ_ h=>h) |>.less λk hk=>bB (L.aa k hk) k1.size
 refine bu.call _ _ rfl ahb ?_
 refine (u.aa W y (V 7) C).mono ?_
 rintro e Z⟨rfl,t⟩
 refine⟨_,rfl,?_⟩
 have E:=ae (t.xe y I.aa)
 apply bu.pure
 rfl
 simp[aw,List.lookup,bj,execOp,ay,go_sem]
 rfl
 refine bu.nil ?_
 simp only[bF,Act.put,cO,cM,cL,Nat.reduceAdd,bj]
 clear hO F C t C1 u
 go_wp2
 go_ret
 exact⟨Pu,E.aa⟩
theorem apd{M:Nat->Prop}{p:cV}{B:aB}{w:World}(h:bC M p B w)(s:bH B)(a:av) :
 Calls prog 26 #[.pointer (some ⟨p.g,0,none⟩),cN a] w λe w'=>e=.returned (.int .i64 (gF B (pQ B.aK a)).2)/\cW M p (gF B (pQ B.aK a)).1 w w':=by
 have C1:=ae λW (k:K w W)=>ata B.aK a p.vt W (h.bL.at k).aK s.tx.small s.tx.BL
 have H:=ae h
 have hz:=λk hk=>h.low k hk
 have I:=ae λk hk=>h.low k (h.sub k hk)
 have u:=ae λW (k:K w W) v G=>Tv (h.st k) (l:=(pQ B.aK a).1) (v:=v) (pQ B.aK a).2 G
 have q:=h.q
 have k1:K w (w.alloc (.cells #[.int .i64 a.1,.int .u64 (a.2.1:Int),.int .u64 (a.2.2:Int)] 46)):=(K.rf w).al _
 have hb:=ai.new w 46 #[.int .i64 a.1,.int .u64 (a.2.1:Int),.int .u64 (a.2.2:Int)]
 have D:=az h.bL.now.aK
 obtain⟨g,gl,gd,gr,gt,vd,vr,vp,vh,vl,vq,va,vt,vf,vw,kr⟩:=p
 simp only at q C1 D
 obtain⟨Q,ct,rfl⟩:=D
 generalize J:pQ B.aK a=R at *
 obtain⟨j,rc⟩:=R
 have L:=ae hz
 clear h s J hz
 go_enter func26,ntmps26
 go_upto_region 1 with (fail)
 generalize w.alloc _=i at *
 generalize w.heap.size=T at hb⊢
 have qa:=hb.cells
 have q1:=λW (k:K i W)=>q W (k1.tr k)
 clear q hb
 go_upto_region 3 with (fail)
 refine eM 9 [([],[]),([],[]),([1],[(8,1)]),([2],[(9,2)]),([3],[(10,3)]),([],[]),([4,5],[(11,4),(12,5)]),([6],[(13,6)]),([6],[(13,6)]),([0,6,7,8],[(7,0),(14,7),(15,8)]),([0,1,2,3,4,5,6,7,8,9],[(16,9)])] 17 rfl ak ak ak ak au ?_
 simp only[dR,dN,ew,dP]
 iterate 6 (apply aV.is;intro V W kW hp;(try simp only[aI,aJ,aM,aE,aF,ag]at hp);simp[aL,aw,List.lookup,hp,aS,execOp,ay,ag,aN,kW,q1,qa,go_sem];rfl)
 refine aV.op (λv W=>∃v',v=.tuple #[v',.int .i64 rc]/\aX i.heap.size i.heap.size 106 cJ j v' W) (λ_ _ _ ⟨v',e,h⟩ k=>⟨v',e,h.st k⟩) (λV W kW hp=>?_) ?_
 ·(try simp only[aI,aJ,aM,aE,aF,ag]at hp)
  exact aha
 refine aV.op (λv W=>aX i.heap.size i.heap.size 106 cJ j v W) (λ_ _ _ h k=>h.st k) (λV W kW hp=>?_) ?_
 ·exact K2
 refine aV.is (.int .i64 rc) (λV W kW hp=>?_) ?_
 ·exact K3
 intro V W kW A
 simp only[aJ,aM,eA,ag,Nat.reduceAdd]at A
 obtain⟨e0,O,X,S,U,N,⟨v',Y,F⟩,hO,e8,-⟩:=A
 have y:=k1.tr kW
 have C:Fx M (λW=>ar cJ j (V 7) W) W:=(aX.sG hO).fx (λ_ h=>h) |>.less λk hk=>bB (L.aa k hk) k1.size
 refine bu.call _ _ rfl ahb ?_
 refine (u.aa W y (V 7) C).mono ?_
 rintro e Z⟨rfl,t⟩
 refine⟨_,rfl,?_⟩
 have E:=ae (t.xe y I.aa)
 apply bu.pure
 rfl
 simp[aw,List.lookup,bj,execOp,ay,go_sem]
 rfl
 refine bu.nil ?_
 simp only[bF,Act.put,cO,cM,cL,Nat.reduceAdd,bj]
 clear hO F C t C1 u
 go_wp2
 go_ret
 exact⟨Pu,E.aa⟩
def xf(lo:Nat){α:Type}(S:cF α)(l:List α)(v:Value)(w:World):Prop:=∀W,aH lo none w W->ar S l v W
theorem xf.st{lo:Nat}{α:Type}{S:cF α}{l:List α}{v:Value}{w w':World}(h:xf lo S l v w)(k:K w w'):xf lo S l v w':=λW u=>h W ((aH.bg k _ _).tr u)
theorem xf.low{lo i:Nat}{α:Type}{S:cF α}{l:List α}{v:Value}{w:World}(h:xf lo S l v w)(k:i<=lo):xf i S l v w:=λW u=>h W (u.more k λ_ _ h=>h)
theorem xf.fx{lo:Nat}{α:Type}{S:cF α}{l:List α}{v:Value}{w:World}{M:Nat->Prop}(h:xf lo S l v w)(i:∀k,M k->k<lo):Fx M (λW=>ar S l v W) w:=Fx.fresh h i
theorem aol{M:Nat->Prop}{p:cV}{B:aB}{w:World}(h:bC M p B w)(y:bH B)(a:av)(i:List bh)(u:Value)(D:ik i u w)(Z:i.length<=1000000)(L:∀x∈i,mV x) :
 Calls prog 24 #[.pointer (some ⟨p.g,0,none⟩),cN a,u] w λe w'=>e=.returned (.int .i64 (gF B (nv B.aK a i)).2)/\cW M p (gF B (nv B.aK a i)).1 w w':=by
 have E:=ae λW (k:K w W)=>ap8 B.aK a i p.vt u W (h.bL.at k).aK (mR _ _ _ _ D k) y.tx.small (λs hs=>(y.tx.each s hs).2.1) Z L y.tx.BL
 have H:=ae h
 have hz:=λk hk=>h.low k hk
 have HX:=ae λk hk=>h.low k (h.sub k hk)
 have G:=ae λW (k:K w W) v hv=>Tv (h.st k) (l:=(nv B.aK a i).1) (v:=v) (nv B.aK a i).2 hv
 have q:=h.q
 have t:K w (w.alloc (.cells #[.int .i64 a.1,.int .u64 (a.2.1:Int),.int .u64 (a.2.2:Int)] 46)):=(K.rf w).al _
 have hb:=ai.new w 46 #[.int .i64 a.1,.int .u64 (a.2.1:Int),.int .u64 (a.2.2:Int)]
 have S:=az h.bL.now.aK
 obtain⟨g,gl,gd,gr,gt,vd,vr,vp,vh,vl,vq,va,vt,vf,vw,kr⟩:=p
 simp only at q E S
 obtain⟨At,ct,rfl⟩:=S
 obtain⟨Au,cu,rfl⟩:=vN D
 generalize hR:nv B.aK a i=R at *
 obtain⟨C,rc⟩:=R
 have Y:=ae hz
 clear h y hR hz D L
 go_enter func24,ntmps24
 go_upto_region 1 with (fail)
 generalize w.alloc _=A at *
 generalize w.heap.size=ga at hb⊢
 have N:=hb.cells
 have O:=λW (k:K A W)=>q W (t.tr k)
 clear q hb
 go_upto_region 3 with (fail)
 refine eM 10 [([],[]),([],[]),([1],[(10,1)]),([2],[(11,2)]),([3],[(12,3)]),([],[]),([],[]),([4,5,6],[(13,4),(14,5),(15,6)]),([7],[(16,7)]),([7],[(16,7)]),([0,7,8,9],[(9,0),(17,8),(18,9)]),([0,1,2,3,4,5,6,7,8,9,10],[(19,10)])] 20 rfl ak ak ak ak au ?_
 simp only[dR,dN,ew,dP]
 iterate 7 (apply aV.is;intro V W j hp;(try simp only[aI,aJ,aM,aE,aF,ag]at hp);simp[aL,aw,List.lookup,hp,aS,execOp,ay,ag,aN,j,O,N,go_sem];rfl)
 refine aV.op (λv W=>∃v',v=.tuple #[v',.int .i64 rc]/\xf A.heap.size cJ C v' W) (λ_ _ _ ⟨v',e,h⟩ k=>⟨v',e,h.st k⟩) (λV W j hp=>?_) ?_
 ·(try simp only[aI,aJ,aM,aE,aF,ag]at hp)
  simp[aL,aw,List.lookup,hp,aS,execOp,ay,O,N,go_sem];refine (E.aa W (t.tr j)).mono ?_;rintro e w4⟨v4,rfl,hO,X⟩;exact⟨_,rfl,⟨_,rfl,xf.low hO j.size⟩,X⟩
 refine aV.op (λv W=>xf A.heap.size cJ C v W) (λ_ _ _ h k=>h.st k) (λV W j hp=>?_) ?_
 ·exact K2
 refine aV.is (.int .i64 rc) (λV W j hp=>?_) ?_
 ·exact K3
 intro V W j I
 simp only[aJ,aM,eA,ag,Nat.reduceAdd]at I
 obtain⟨e0,e1,e2,e3,e4,e5,e6,⟨v',e7,U⟩,hO,e9,-⟩:=I
 have J:=t.tr j
 have Q:Fx M (λW=>ar cJ C (V 8) W) W:=xf.fx hO λk hk=>bB (Y.aa k hk) t.size
 refine bu.call _ _ rfl ahc ?_
 refine (G.aa W J (V 8) Q).mono ?_
 rintro e w5⟨rfl,F⟩
 refine⟨_,rfl,?_⟩
 have T:=ae (F.xe J HX.aa)
 apply bu.pure
 rfl
 simp[aw,List.lookup,bj,execOp,ay,go_sem]
 rfl
 refine bu.nil ?_
 simp only[bF,Act.put,cO,cM,cL,Nat.reduceAdd,bj]
 clear hO U Q F E G
 go_wp2
 go_ret
 exact⟨Pu,T.aa⟩
theorem bH.new{B:aB}(h:bH B):df (pz B):=by
 have i:=h.me;have t:=h.calls;have j:=h.dk.inv.life;have s:=vO h.tr;simp only[jd,cz,decide_eq_true_eq]at i;refine⟨?_,j,?_⟩
 ·simp only[pz,bU];omega
 ·simp only[pz];omega
theorem aoL{M:Nat->Prop}{p:cV}{B:aB}{w:World}(h:bC M p B w)(i:bH B)(c:Int)(hc:bU c)(E F:Nat)(D:ai w E 29 #[.pointer (some ⟨p.g,0,none⟩)])(L:ai w F 3 #[.int .i64 c]) :
 Calls prog 34 #[cN (pz B),.pointer (some ⟨E,0,none⟩),.pointer (some ⟨F,0,none⟩)] w λe w'=>∃v',e=.returned (.tuple #[v',.int .i64 (vV B.aK (pz B) c).2])/\aX w.heap.size w.heap.size 106 cJ (vV B.aK (pz B) c).1 v' w'/\K w w':=by
 have C1:=ae λW (k:K w W)=>ap6 B.aK (pz B) c p.vt W (h.bL.at k).aK i.new hc i.tx.small i.tx.BL
 have q:=h.q
 have j:=D.cells
 have H:=L.cells
 have N:=az h.bL.now.aK
 generalize pz B=a at *
 have k1:K w (w.alloc (.cells #[.int .i64 a.1,.int .u64 (a.2.1:Int),.int .u64 (a.2.2:Int)] 46)):=(K.rf w).al _
 have hb:=ai.new w 46 #[.int .i64 a.1,.int .u64 (a.2.1:Int),.int .u64 (a.2.2:Int)]
 obtain⟨g,gl,gd,gr,gt,vd,vr,vp,vh,vl,vq,va,vt,vf,vw,kr⟩:=p
 simp only at q C1 N j
 obtain⟨At,ct,rfl⟩:=N
 generalize vV B.aK a c=R at *
 obtain⟨G,rc⟩:=R
 clear h i D L
 go_enter func34,ntmps34
 go_upto_region 1 with (fail)
 generalize w.alloc _=t at *
 obtain⟨lo,hlo⟩:∃lo,Hid (lo=w.heap.size):=⟨_,ae rfl⟩
 generalize w.heap.size=ga at hb⊢
 have y:=hb.cells
 have A:=λW (k:K t W)=>q W (k1.tr k)
 have s:=λW (k:K t W)=>j W (k1.tr k)
 have u:=λW (k:K t W)=>H W (k1.tr k)
 clear q j H hb
 refine eM 9 [([],[]),([0],[(6,0)]),([1],[(7,1)]),([2],[(8,2)]),([],[]),([],[]),([3,4,5],[(9,3),(10,4),(11,5)]),([6],[(12,6)]),([6],[(12,6)]),([0,1,2,3,4,5,6,7,8],[(13,7)]),([0,1,2,3,4,5,6,7,8,9],[(14,8)])] 15 rfl ak ak ak ak au ?_
 simp only[dR,dN,ew,dP]
 iterate 6 (apply aV.is;intro V W kW hp;(try simp only[aI,aJ,aM,aE,aF,ag]at hp);simp[aL,aw,List.lookup,hp,aS,execOp,ay,ag,aN,kW,A,y,s,u,go_sem];rfl)
 refine aV.op (λv W=>∃v',v=.tuple #[v',.int .i64 rc]/\aX lo lo 106 cJ G v' W) (λ_ _ _ ⟨v',e,h⟩ k=>⟨v',e,h.st k⟩) (λV W kW hp=>?_) ?_
 ·(try simp only[aI,aJ,aM,aE,aF,ag]at hp)
  simp[aL,aw,List.lookup,hp,aS,execOp,ay,A,y,s,u,go_sem];exact ahd
 refine aV.op (λv W=>aX lo lo 106 cJ G v W) (λ_ _ _ h k=>h.st k) (λV W kW hp=>?_) ?_
 ·exact K2
 refine aV.is (.int .i64 rc) (λV W kW hp=>?_) ?_
 ·exact K3
 intro V W kW J
 simp only[aJ,aM,eA,ag,Nat.reduceAdd]at J
 obtain⟨e0,Q,X,T,U,O,⟨v',Z,S⟩,hO,C,-⟩:=J
 have Y:=k1.tr kW
 generalize I:V 7=v7 at *
 have tg:=az hO.ar
 obtain⟨A7,c7,rfl⟩:=tg
 apply bu.pure
 rfl
 simp[aw,List.lookup,bj,I,execOp,ay,go_sem]
 rfl
 apply bu.pure
 rfl
 simp[aw,List.lookup,bj,C,execOp,ay,go_sem]
 rfl
 refine bu.nil ?_
 simp only[bF,Act.put,cO,cM,cL,Nat.reduceAdd,bj]
 have HO:=ae hO
 clear hO S C1 A y s u I e0 Q X T U O Z C
 go_wp2
 go_ret2
 exact⟨_,rfl,by rw[<- hlo.aa];exact HO.aa,Y⟩
theorem ap9{M:Nat->Prop}{p:cV}{B:aB}{w:World}(h:bC M p B w)(j:bH B)(c:Int)(hc:bU c)(n:Nat)(hn:n<18446744073709551616)(f:List bc)(C:Value)(L:eJ f C w)(O:∀t∈f,iH t)(cC:f.length<=1000000)(Q S gn gf:Nat)(N:ai w Q 29 #[.pointer (some ⟨p.g,0,none⟩)])(Em:ai w S 3 #[.int .i64 c])(hgn:ai w gn 37 #[.int .u64 (n:Int)])(tC:ai w gf 36 #[C]) :
 Calls prog 66 #[cN (pz B),.pointer (some ⟨Q,0,none⟩),.pointer (some ⟨S,0,none⟩),.pointer (some ⟨gn,0,none⟩),.pointer (some ⟨gf,0,none⟩)] w λe w'=>∃v',e=.returned (.tuple #[v',.int .i64 (s6 B.aK (p8 B 2 c n f)).2])/\aX w.heap.size w.heap.size 106 cJ (s6 B.aK (p8 B 2 c n f)).1 v' w'/\K w w':=by
 have F:=j.new
 have hfit:cK (p8 B 2 c n f):=⟨by simp[p8,bU],F.1,hc,F.2.1,F.2.2,hn,O,by simp[p8]⟩
 have C1:=ae λW (k:K w W)=>as9 B.aK (p8 B 2 c n f) p.vt (.agg (aA (p8 B 2 c n f) C (.slice none 0 0))) W (h.bL.at k).aK ⟨_,_,rfl,dB _ _ _ _ L k,iu _ _⟩ hfit (by simp[eD,p8];exact cC) j.tx.small j.tx.BL
 have q:=h.q
 have u:=N.cells
 have U:=Em.cells
 have qn:=hgn.cells
 have Z:=tC.cells
 obtain⟨Af,cf,rfl⟩:=cB L
 have hs1:=az h.bL.now.aK
 simp only[p8]at C1
 have E:Hid (pz B=(B.me,B.st.life,B.calls+1)):=ae rfl
 obtain⟨n1,J⟩:∃n,n=B.calls+1:=⟨_,rfl⟩
 rw[<- J]at C1 E
 rw[E.aa]
 generalize s:s6 B.aK (p8 B 2 c n f)=R at *
 simp only[p8]at s
 rw[<- J]at s
 rw[s]at C1
 clear J s E
 have k1:K w (w.alloc (.cells #[.int .i64 B.me,.int .u64 (B.st.life:Int),.int .u64 (n1:Int)] 46)):=(K.rf w).al _
 have hb:=ai.new w 46 #[.int .i64 B.me,.int .u64 (B.st.life:Int),.int .u64 (n1:Int)]
 obtain⟨g,gl,gd,gr,gt,vd,vr,vp,vh,vl,vq,va,vt,vf,vw,kr⟩:=p
 simp only at q C1 hs1 u
 obtain⟨At,ct,rfl⟩:=hs1
 obtain⟨T,rc⟩:=R
 clear h j N Em hgn hfit tC L O
 go_enter func66,ntmps66
 go_upto_region 1 with (fail)
 generalize w.alloc _=i at *
 obtain⟨lo,hlo⟩:∃lo,Hid (lo=w.heap.size):=⟨_,ae rfl⟩
 generalize w.heap.size=ga at hb⊢
 have H:=hb.cells
 have I:=λW (k:K i W)=>q W (k1.tr k)
 have A:=λW (k:K i W)=>u W (k1.tr k)
 have G:=λW (k:K i W)=>U W (k1.tr k)
 have D:=λW (k:K i W)=>qn W (k1.tr k)
 have y:=λW (k:K i W)=>Z W (k1.tr k)
 clear Z
 clear q u U qn hb
 refine eM 12 [([],[]),([0],[(8,0)]),([1],[(9,1)]),([2],[(10,2)]),([],[]),([],[]),([],[]),([],[]),([4,5,6,7],[(12,4),(13,5),(14,6),(15,7)]),([3,8],[(11,3),(16,8)]),([9],[(17,9)]),([9],[(17,9)]),([0,1,2,3,4,5,6,7,8,9,10,11],[(18,10)]),([0,1,2,3,4,5,6,7,8,9,10,11,12],[(19,11)])] 20 rfl ak ak ak ak au ?_
 simp only[dR,dN,ew,dP]
 iterate 9 (apply aV.is;intro V W kW hp;(try simp only[aI,aJ,aM,aE,aF,ag]at hp);simp[aL,aw,List.lookup,hp,aS,execOp,ay,ag,aN,kW,I,H,A,G,D,y,go_sem];rfl)
 refine aV.op (λv W=>∃v',v=.tuple #[v',.int .i64 rc]/\aX lo lo 106 cJ T v' W) (λ_ _ _ ⟨v',e,h⟩ k=>⟨v',e,h.st k⟩) (λV W kW hp=>?_) ?_
 ·(try simp only[aI,aJ,aM,aE,aF,ag]at hp)
  simp[aL,aw,List.lookup,hp,aS,execOp,ay,I,H,A,G,D,y,go_sem];exact ahd
 refine aV.op (λv W=>aX lo lo 106 cJ T v W) (λ_ _ _ h k=>h.st k) (λV W kW hp=>?_) ?_
 ·exact K2
 refine aV.is (.int .i64 rc) (λV W kW hp=>?_) ?_
 ·exact K3
 intro V W kW Y
 simp only[aJ,aM,eA,ag,Nat.reduceAdd]at Y
 obtain⟨e0,e1,e2,e3,e4,e5,e6,e7,e8,⟨v',ev,eu⟩,hO,ec,-⟩:=Y
 have kF:=k1.tr kW
 generalize X:V 10=v7 at *
 have tg:=az hO.ar
 obtain⟨A7,c7,rfl⟩:=tg
 apply bu.pure
 rfl
 simp[aw,List.lookup,bj,X,execOp,ay,go_sem]
 rfl
 apply bu.pure
 rfl
 simp[aw,List.lookup,bj,ec,execOp,ay,go_sem]
 rfl
 refine bu.nil ?_
 simp only[bF,Act.put,cO,cM,cL,Nat.reduceAdd,bj]
 have HO:=ae hO
 clear hO eu C1 I H A G D y X e0 e1 e2 e3 e4 e5 e6 e7 e8 ev ec
 go_wp2
 go_ret2
 exact⟨_,rfl,by rw[<- hlo.aa];exact HO.aa,kF⟩
section
variable {M:Nat->Prop} {p:cV} {B B':aB} {w w1 w2 w3:World} {g9:Nat}
theorem bC.scr(h:bC M p B w)(k:K w w1)(t:w.heap.size<=g9)(s:g9<w1.heap.size):bC (λk=>M k∨k=g9) p B w1 :=
 h.far (X:=λ_=>False) (ah.bg k _) (λ_ h=>h.elim) (λ_ h=>h.elim) (λk hk i=>i.resolve_right af) (λk hk=>.inl (h.sub k hk)) λb hb=>hb.elim (λj=>bB (h.low b j) k.size) λe=>e▸s
theorem cW.scratch(h:cW (λk=>M k∨k=g9) p B' w1 w2)(u:ah (λk=>k=g9) w2 w3)(k:K w w1)(C:w.heap.size<=g9)(D:g9<w1.heap.size)(y:∀k,bn p k->k<w.heap.size)(B:∀k,M k->k<w.heap.size):cW M p B' w w3:=by
 obtain⟨p',j,s,hg,hn⟩:=h;have A:¬bn p' g9:=λi=>(hn g9 i).elim (λh=>by have:=y g9 h;omega) λh=>af
 have E:=s.size;have t:=u.size;refine⟨p',j.far u (λk hk=>.inl (.inr hk)) (λk hk i=>A (hk▸i)) (λk _ i=>i.imp .inl id) (λk hk=>.inr hk) (λk hk=>hk.elim (λh=>by have:=B k h;omega) λh=>bB (j.low k (.inr h)) t),((ah.bg k _).tr s).iA u λk hk e=>af,hg,λk hk=>(hn k hk).imp id λh=>af⟩
theorem cW.keeps{t:TypeId}{cs:Array Value}(h:cW M p B' w1 w2)(hb:ai w1 g9 t cs)(hg:¬bn p g9):ai w2 g9 t cs:=by obtain⟨p',j,i,-⟩:=h;exact hb.bT i hg
end
theorem ape{M:Nat->Prop}{p:cV}{B:aB}{w:World}(h:bC M p B w)(F:bH B)(c:Int)(N:bU c) :
 Calls prog 9 #[.pointer (some ⟨p.g,0,none⟩),.int .i64 c] w λe w'=>e=.returned (.tuple #[cN (pS B c).2.1,.int .i64 (pS B c).2.2])/\cW M p (pS B c).1 w w':=by
 have HX:=ae λk hk=>h.low k (h.sub k hk)
 have V:=ae h.low
 have D:=((ai.new w 29 #[.pointer (some ⟨p.g,0,none⟩)]).alloc (.cells #[.int .i64 c] 3)).alloc (.cells #[.int .i64 0,.int .u64 0,.int .u64 0] 46)
 have A:=(ai.new (w.alloc (.cells #[.pointer (some ⟨p.g,0,none⟩)] 29)) 3 #[.int .i64 c]).alloc (.cells #[.int .i64 0,.int .u64 0,.int .u64 0] 46)
 have y:=ai.new ((w.alloc (.cells #[.pointer (some ⟨p.g,0,none⟩)] 29)).alloc (.cells #[.int .i64 c] 3)) 46 #[.int .i64 0,.int .u64 0,.int .u64 0]
 have I:K w (((w.alloc (.cells #[.pointer (some ⟨p.g,0,none⟩)] 29)).alloc (.cells #[.int .i64 c] 3)).alloc (.cells #[.int .i64 0,.int .u64 0,.int .u64 0] 46)):=(((K.rf w).al _).al _).al _
 simp only[World.size_alloc]at A y
 generalize bJ:w.heap.size+1+1=j at y
 have h9:w.heap.size<=j:=af
 have E:=h.scr I h9 y.lt
 have Q:=ae (abr E F c 34 #[.pointer (some ⟨w.heap.size,0,none⟩),.pointer (some ⟨w.heap.size+1,0,none⟩)] (vV B.aK (pz B) c) (λargs W=>nz) (λW G=>aoL (E.st G) F c N _ _ (D.below G D.lt) (A.below G A.lt)))
 have H:Hid (pS B c=lF B c (vV B.aK (pz B) c)):=ae rfl
 generalize pS B c=R at *
 generalize lF B c (vV B.aK (pz B) c)=S at *
 obtain⟨B',i,ec⟩:=S
 have L:=ae λt Y (s:cW (λk=>M k∨k=j) p B' _ t) (u:ah (λk=>k=j) t Y)=>s.scratch u I h9 y.lt HX.aa V.aa
 have J:=ae λt (s:cW (λk=>M k∨k=j) p B' _ t)=>s.keeps y λhx=>V8
 have q1:=D.cell
 have q2:=A.cell
 clear h F y E N h9 D A
 go_enter func9,ntmps9
 go_upto_region 1 with (fail)
 generalize World.alloc (World.alloc (World.alloc w _) _) _=w1 at *
 clear bJ
 go_wp2_with fail
 refine Q.aa.mono ?_
 rintro e t⟨rfl,s⟩
 have C:=J.aa _ s
 have O:=ae (L.aa _ · s)
 have U:=C.cell
 have T:=C.frozen
 clear Q L J s q1 q2
 go_wp2
 have nG:ai (World.setCell (World.setCell (World.setCell t _ _) _ _) _ _) j 46 #[.int .i64 i.1,.int .u64 (i.2.1:Int),.int .u64 (i.2.2:Int)]:=((C.aR 0 (.int .i64 i.1)).aR 1 (.int .u64 (i.2.1:Int))).aR 2 (.int .u64 (i.2.2:Int))
 have HF:=ae (O.aa _ (((ah.b6 (X:=λk=>k=j) rfl 0 (.int .i64 i.1)).tr (ah.b6 (X:=λk=>k=j) rfl 1 (.int .u64 (i.2.1:Int)))).tr (ah.b6 (X:=λk=>k=j) rfl 2 (.int .u64 (i.2.2:Int)))))
 clear U T C O
 generalize World.setCell (World.setCell (World.setCell t _ _) _ _) _ _=W9 at *
 have Z:=nG.cell
 try rw[gS]
 refine bodyPost_ret (v:=.tuple #[cN i,.int .i64 ec]) (by simp[results,results9,go_sem,Z]) rfl ?_
 exact⟨by rw[H.aa],by rw[H.aa];exact HF.aa⟩
theorem arn{M:Nat->Prop}{p:cV}{B:aB}{w:World}(h:bC M p B w)(O:bH B)(c:Int)(Z:bU c)(n:Nat)(hn:n<18446744073709551616)(f:List bc)(T:Value)(Q:eJ f T w)(U:∀t∈f,iH t)(cC:f.length<=1000000) :
 Calls prog 22 #[.pointer (some ⟨p.g,0,none⟩),.int .i64 c,.int .u64 (n:Int),T] w λe w'=>e=.returned (.tuple #[cN (qZ B c n f).2.1,.int .i64 (qZ B c n f).2.2])/\cW M p (qZ B c n f).1 w w':=by
 obtain⟨y,C,e0⟩:=cB Q
 subst e0
 have HX:=ae λk hk=>h.low k (h.sub k hk)
 have HM:=ae h.low
 have J:=(((((ai.new w 29 #[.pointer (some ⟨p.g,0,none⟩)]).alloc (.cells #[.int .i64 c] 3)).alloc (.cells #[.int .u64 (n:Int)] 37)).alloc (.cells #[(Value.slice y f.length C)] 36)).alloc (.cells #[.int .i64 0,.int .u64 0,.int .u64 0] 46))
 have F:=((((ai.new (w.alloc (.cells #[.pointer (some ⟨p.g,0,none⟩)] 29)) 3 #[.int .i64 c]).alloc (.cells #[.int .u64 (n:Int)] 37)).alloc (.cells #[(Value.slice y f.length C)] 36)).alloc (.cells #[.int .i64 0,.int .u64 0,.int .u64 0] 46))
 have H:=(((ai.new ((w.alloc (.cells #[.pointer (some ⟨p.g,0,none⟩)] 29)).alloc (.cells #[.int .i64 c] 3)) 37 #[.int .u64 (n:Int)]).alloc (.cells #[(Value.slice y f.length C)] 36)).alloc (.cells #[.int .i64 0,.int .u64 0,.int .u64 0] 46))
 have I:=((ai.new (((w.alloc (.cells #[.pointer (some ⟨p.g,0,none⟩)] 29)).alloc (.cells #[.int .i64 c] 3)).alloc (.cells #[.int .u64 (n:Int)] 37)) 36 #[(Value.slice y f.length C)]).alloc (.cells #[.int .i64 0,.int .u64 0,.int .u64 0] 46))
 have D:=ai.new ((((w.alloc (.cells #[.pointer (some ⟨p.g,0,none⟩)] 29)).alloc (.cells #[.int .i64 c] 3)).alloc (.cells #[.int .u64 (n:Int)] 37)).alloc (.cells #[(Value.slice y f.length C)] 36)) 46 #[.int .i64 0,.int .u64 0,.int .u64 0]
 have L:K w (((((w.alloc (.cells #[.pointer (some ⟨p.g,0,none⟩)] 29)).alloc (.cells #[.int .i64 c] 3)).alloc (.cells #[.int .u64 (n:Int)] 37)).alloc (.cells #[(Value.slice y f.length C)] 36)).alloc (.cells #[.int .i64 0,.int .u64 0,.int .u64 0] 46)):=((((((K.rf w).al _).al _).al _).al _).al _)
 simp only[World.size_alloc]at F H I D
 generalize bJ:w.heap.size+1+1+1+1=j at D
 have h9:w.heap.size<=j:=af
 have N:=h.scr L h9 D.lt
 have C1:=ae (abr N O c 66 #[.pointer (some ⟨w.heap.size,0,none⟩),.pointer (some ⟨w.heap.size+1,0,none⟩),.pointer (some ⟨w.heap.size+1+1,0,none⟩),.pointer (some ⟨w.heap.size+1+1+1,0,none⟩)] (s6 B.aK (p8 B 2 c n f)) (λargs W=>nz) (λW E=>ap9 (N.st E) O c Z n hn f (Value.slice y f.length C) (dB _ _ _ _ Q (L.tr E)) U cC _ _ _ _ (J.below E J.lt) (F.below E F.lt) (H.below E H.lt) (I.below E I.lt)))
 have S:Hid (qZ B c n f=lF B c (s6 B.aK (p8 B 2 c n f))):=ae rfl
 generalize qZ B c n f=R at *
 generalize lF B c (s6 B.aK (p8 B 2 c n f))=RR at *
 obtain⟨B',i,ec⟩:=RR
 have Y:=ae λA w3 (s:cW (λk=>M k∨k=j) p B' _ A) (u:ah (λk=>k=j) A w3)=>s.scratch u L h9 D.lt HX.aa HM.aa
 have V:=ae λA (s:cW (λk=>M k∨k=j) p B' _ A)=>s.keeps D λhx=>V8
 have q1:=J.cell
 have q2:=F.cell
 clear h O D N Z h9 Q U J F H I
 go_enter func22,ntmps22
 go_upto_region 1 with (fail)
 generalize World.alloc (World.alloc (World.alloc (World.alloc (World.alloc w _) _) _) _) _=w1 at *
 clear bJ
 go_wp2_with fail
 refine C1.aa.mono ?_
 rintro e A⟨rfl,s⟩
 have G:=V.aa _ s
 have Co:=ae (Y.aa _ · s)
 have qr:=G.cell
 have zr:=G.frozen
 clear C1 Y V s q1 q2
 go_wp2
 have nG:ai (World.setCell (World.setCell (World.setCell A _ _) _ _) _ _) j 46 #[.int .i64 i.1,.int .u64 (i.2.1:Int),.int .u64 (i.2.2:Int)]:=((G.aR 0 (.int .i64 i.1)).aR 1 (.int .u64 (i.2.1:Int))).aR 2 (.int .u64 (i.2.2:Int))
 have HF:=ae (Co.aa _ (((ah.b6 (X:=λk=>k=j) rfl 0 (.int .i64 i.1)).tr (ah.b6 (X:=λk=>k=j) rfl 1 (.int .u64 (i.2.1:Int)))).tr (ah.b6 (X:=λk=>k=j) rfl 2 (.int .u64 (i.2.2:Int)))))
 clear qr zr G Co
 generalize World.setCell (World.setCell (World.setCell A _ _) _ _) _ _=W9 at *
 have e9:=nG.cell
 try rw[gS]
 refine bodyPost_ret (v:=.tuple #[cN i,.int .i64 ec]) (by simp[results,results22,go_sem,e9]) rfl ?_
 exact⟨by rw[S.aa],by rw[S.aa];exact HF.aa⟩
