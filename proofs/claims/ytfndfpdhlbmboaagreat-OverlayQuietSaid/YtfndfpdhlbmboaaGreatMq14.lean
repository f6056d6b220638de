/-
  The walk of 'awake' of the statements of layer 21. Conditions: none.
-/
import Derived.Test.YtfndfpdhlbmboaaGreatMq13
import Derived.Test.YtfndfpdhlbmboaaGreatMqz
set_option maxRecDepth 100000
set_option maxHeartbeats 16000000
set_option linter.all false
namespace Go.Proofs.YtfndfpdhlbmboaaGreat
open Go Go.RowKit _root_.Go.Proofs.Tryz
theorem apR a b c d W:(Instr.field 46 (.agg #[a,b,c,d]) 1).run prog W=.ok b W:=by rfl
theorem nH.k{par ai gw k O Z w W W'}(h:nH par ai gw O k Z W W')(hk:K w W)(j:∀b,b<w.heap.size->Z b):K w W' :=
 h.2.k hk λb hb=>Nat.le_of_not_lt λh9=>hb (j b h9)
theorem ao2 w:Calls prog 8 #[] w λe w'=>e=.returned (.bool true)/\K w w':=by
 have kA:=K.kK w (.cells #[.int .i64 (-1),.int .i64 0] 3) (.cells #[.int .i64 1] 3);have h1:=((aeL (w:=w) [-1,0] 3 (M:=λ_=>False) (λ_ h=>h.elim)).k ((K.rf _).al (.cells #[.int .i64 1] 3))).now;have hz1:(w.alloc (.cells #[.int .i64 (-1),.int .i64 0] 3)).heap.size=w.heap.size+1:=aj;have h2:=(aeL (w:=w.alloc (.cells #[.int .i64 (-1),.int .i64 0] 3)) [1] 3 (M:=λ_=>False) (λ_ h=>h.elim)).now;rw[hz1]at h2;have C1:=ae (ajn [-1,0] [1] 10000 _ _ _ h1 h2 ax ax ajs ax (λb=>b<w.heap.size) λb hb=>bw hb kA.size);go_in;go_wp2_with fail
 refine C1.aa.mono ?_;rintro e S⟨gw,rfl,hO,k1⟩;have Kq:=kA.tr k1;have kB:=K.new S (.cells #[.string ⟨#[112]⟩,.int .i64 8,.int .i64 0,.int .i64 0,.string ⟨#[]⟩] 73);have B:=(hO.st kB).sub af (c:=0) po (n:=1) af (f:=tA) (axO S (⟨#[112]⟩,8,0,0,⟨#[]⟩) _) (by simp[tA,iB,bR]) (by simp[tA]);rw[show y9 (rG [-1,0] [1] 10000) 0 1 tA=Oy from rfl,EE.1]at B;replace B:=ae B;have k0B:=Kq.tr kB;go_wp2_with fail
 generalize S.alloc _=w2 at *;refine B.aa.mono ?_;rintro e w3⟨rfl,j⟩;have lF:=j.k k0B λ_ h=>h
 have bQ:=j.1;go_upto_region 3 with fail;have kC:=K.new w3 (.cells #[.int .i64 1,.int .u64 1,.int .u64 1] 26);have cY:=bQ.st kC;have tv:=lF.tr kC;generalize w3.alloc _=w4 at *;have J:=cY.begin af (c:=0) po;rw[show uZ Oy.1 0=Oz from rfl,EE.2.1]at J;replace J:=ae J;go_wp2_with fail
 refine J.aa.mono ?_;rintro e y⟨rfl,j⟩;have EO:=j.k tv λ_ h=>h
 have dm:=j.1;go_upto_region 4 with fail;have R:=ah.new y 26 #[.int .i64 1,.int .u64 1,.int .u64 2];have Y:=R.aS;have mQ:=dm.more (Z':=λb=>b<w.heap.size∨b=y.heap.size) Y λb hb=>hb.imp id λe=>FJ
 have S9:=EO.tr Y;generalize y.alloc _=w6 at *;generalize y.heap.size=b2 at *;have qc:=R.cells;have C5:=ae λW=>ast 5 W
 have qs:=qc;refine dK 5 ?_;iterate 2 refine ar.i ?_
 refine ar.is (.agg #[.int .i64 1,.int .i64 5,.string ⟨#[]⟩]) (λV W kW hp=>?_) ?_
 ·(try simp only[cz,aN,aQ,bV,bW,aJ]at hp)
  simp[bO,aF,List.lookup,hp,cU,execOp,aG,aJ,qc,go_sem];refine (C5.aa W).mono ?_;rintro e w4⟨rfl,k4⟩;grind
 refine ar.i ?_;refine ar.op (iy eA) (mY _) (λV W kW hp=>?_) ?_
 ·simp only[cz,aN,aQ,bV,bW,aJ]at hp;simp[bO,aF,List.lookup,hp,cU,execOp,aG,go_sem];exact⟨axP W (⟨#[112]⟩,1,5,⟨#[]⟩) _,(K.rf W).al _⟩
 intro V W kW hA;simp only[aN,aQ,b6,aJ,Nat.reduceAdd]at hA;obtain⟨e0,e1,e2,e3,h4,-⟩:=hA;have wN:=S9.tr kW;have hcW:=R.ay kW;have t:=(mQ.st kW).FX 0 (a:=(1,1,2)) (by simp[dJ,bR]) (u:=V 4) h4 (by simp[eA]) (by simp[eA,lU,bR]);rw[show (ia Oz.1 0 (1,1,2) λl=>ie l (1,1,2) eA)=OA from rfl,EE.2.2.1]at t;replace t:=ae t;refine aH.call _ _ rfl (by simp[aF,List.lookup,ba,e0,e1,execOp,aG,go_sem];exact⟨rfl,rfl⟩) ?_;refine t.aa.mono ?_;rintro e w8⟨rfl,j⟩;refine⟨_,rfl,?_⟩;have tu:=j.k wN λ_ h=>.inl h
 have hc8:=hcW.z j.2 (.inr rfl);have iU:=j.1;apply aH.pure;rfl;simp[aF,List.lookup,ba,execOp,aG,go_sem];rfl;refine aH.nil ?_;simp only[fT,Act.put,rW,rh,qZ,Nat.reduceAdd,ba,Nat.reduceEqDiff,reduceIte];generalize V 0=x0 at *;generalize V 1=x1 at *;generalize V 2=x2 at *;generalize V 3=x3 at *;generalize V 4=x4 at *;have:=hc8.cell;have F:=iU.F5 0 (a:=(1,1,2)) (by simp[dJ,bR]);rw[show (ia OA.1 0 (1,1,2) λl=>iH l (1,1,2))=OB from rfl,EE.2.2.2.1]at F;replace F:=ae F;go_wp2_with fail
 refine F.aa.mono ?_;rintro e w9⟨rfl,j⟩;have k09:=j.k tu λ_ h=>.inl h
 have rQ:=hc8.z j.2 (.inr rfl);have Z:=ae (j.1.round ax af);rw[show sP OB.1=aw5 from rfl]at Z;go_wp2_with fail
 refine Z.aa.mono ?_;rintro e wS⟨rfl,j⟩;have Kb:=j.k k09 λ_ h=>.inl h
 have aAV:=rQ.z j.2 (.inr rfl);have C9:=ae (j.1.round ax af);rw[show sP aw5=aw6 from rfl]at C9;go_wp2_with fail
 refine C9.aa.mono ?_;rintro e N4⟨rfl,j⟩;have k11:=j.k Kb λ_ h=>.inl h
 have aAW:=aAV.z j.2 (.inr rfl);have C10:=ae (j.1.round ax af);rw[show sP aw6=aw7 from rfl]at C10;go_wp2_with fail
 refine C10.aa.mono ?_;rintro e w12⟨rfl,j⟩;have lK:=j.k k11 λ_ h=>.inl h
 have aAX:=aAW.z j.2 (.inr rfl);have O:=j.1.Gv af 0;rw[show lT aw7 0=DG from rfl,EE.2.2.2.2.2.1]at O;replace O:=ae O;go_wp2_with fail
 refine O.aa.mono ?_;rintro e w13⟨⟨v13,rfl,aAY⟩,j⟩;obtain⟨A13,c13,rfl⟩:=av aAY;rw[EE.2.2.2.2.1];have ox:=j.k lK λ_ h=>.inl h
 have aAZ:=aAX.z j.2 (.inr rfl);have Ji:=j.1;have N:=Ji.status 0 (1,1,2);rw[EE.2.2.2.2.2.2.1]at N;replace N:=ae N;have:=aAZ.cell;go_wp2_with fail
 refine N.aa.mono ?_;rintro e w14⟨rfl,rK⟩;have aA0:=ox.tr rK;have I:=(Ji.st rK).I3 1 0 po;rw[show tU DG.1 1=OC from rfl,EE.2.2.2.2.2.2.2]at I;replace I:=ae I;go_wp2_with fail
 refine I.aa.mono ?_;rintro e w15⟨rfl,j⟩;have Hz:=j.k aA0 λ_ h=>.inl h
 have E:=j.1.begin af (c:=0) po;rw[show uZ OC.1 0=OD from rfl,Cz.1]at E;replace E:=ae E;go_wp2_with fail
 refine E.aa.mono ?_;rintro e w16⟨rfl,j⟩;have k16:=j.k Hz λ_ h=>.inl h
 have aA1:=j.1;go_upto_region 13 with fail;have kE:=K.new w16 (.cells #[.int .i64 0,.int .u64 0,.int .u64 0] 26);have Ki:=k16.tr kE;have G:=(aA1.st kE).IM af 1;rw[show tL OD.1 1=OE from rfl,Cz.2.1]at G;replace G:=ae G;generalize w16.alloc _=w17 at *;go_wp2_with fail
 refine G.aa.mono ?_;rintro e w18⟨rfl,j⟩;have Oi:=j.k Ki λ_ h=>.inl h
 have A:=j.1.Gv af 0;rw[show lT OE.1 0=qQ from rfl,Cz.2.2.2.1]at A;replace A:=ae A;go_wp2_with fail
 refine A.aa.mono ?_;rintro e w19⟨⟨v19,rfl,aA2⟩,j⟩;obtain⟨A19,c19,rfl⟩:=av aA2;rw[Cz.2.2.1];have zT:=j.k Oi λ_ h=>.inl h
 have U:=j.1;have H:=U.ajQ 0;rw[Cz.2.2.2.2.1]at H;have T:=U.got af ayM 0;replace H:=ae H;replace T:=ae T;have Q:=ae U;go_wp2_with fail
 refine H.aa.mono ?_;rintro e w20⟨rfl,rfl⟩;go_wp2_with fail
 refine T.aa.mono ?_;rintro e w21⟨v21,rfl,aA3,C⟩;obtain⟨A21,c21,rfl⟩:=av aA3;rw[Cz.2.2.2.2.2.1];have C19:=ae ((Q.aa.st C).state 0);have aA4:=zT.tr C;go_wp2_with fail
 refine C19.aa.mono ?_;rintro e w22⟨vl,vp,va,rfl,hS,X⟩;obtain⟨⟨Al,cl,rfl⟩,-,-⟩:=hS.sl;rw[Cz.2.2.2.2.2.2.1];have:=apR;have D:=(Q.aa.st (C.tr X)).busy 1;rw[Cz.2.2.2.2.2.2.2.1]at D;replace D:=ae D;have HU:=ae λW (k:K w22 W)=>(Q.aa.st ((C.tr X).tr k)).up 1
 have aA5:=aA4.tr X;generalize my qQ.1 0=s at *;go_wp2_with fail
 refine D.aa.mono ?_;rintro e w23⟨rfl,Dl⟩;have L:=HU.aa w23 Dl;rw[Cz.2.2.2.2.2.2.2.2]at L;replace L:=ae L;have aA6:=aA5.tr Dl;go_wp2_with fail
 refine L.aa.mono ?_;rintro e w24⟨rfl,rfl⟩;go_wp2;go_ret;exact⟨rfl,aA6⟩
section
open Go Go.RowKit Go.ChangeShapes Go.WideShapes Go.ChangeAt
def XJ(w:World)(v:Value):Prop:=∃l:List Int,aq cL l v w/\∀n∈l,bR n
section
variable {H:Type} {enc:TypeId×Value->H} {w:World} {base:Nat} {r:Reach} {b0:Nat} {spare:Nat->Bool} {held:Bool} {v:Value} {d:DataW H} {p:List MemPlace}
theorem adj(u:Value.okWide prog w r b0 23 v)(h:DataW.Trod enc prog w base spare held 23 v d p):XJ w v:=by
 obtain⟨A,n,c,css,rfl,t,j,E,D,B⟩:=aob underlying23 1 fo (λcs=>∃n:Int,cs=[.int .i64 n]/\bR n) (λ_ _ _ _ C=>Po C) u h;obtain⟨l,h6,h7,h8⟩:=OH (λn:Int=>[Value.int .i64 n]) bR css λcs y=>(D cs y).2
 have h9:=B ax;subst t;rw[<- h6]at h9 j⊢;exact⟨l,⟨A,c,rfl,⟨l.map AX,Fw _ _,by rw[h7]at h9;exact h9⟩,j⟩,h8⟩
end
end
theorem xf{c:Prop}[Decidable c]{x y:bz×Int}(j:QO x.1)(t:QO y.1):QO (if c then x else y).1:=by split <;> assumption
theorem QO.did{O par ai k}(h:QO O)(j:bM par ai O k) z a b e i:QO (oR O z a b e i).1:=by unfold oR;exact xf (h.tick a) <| xf (h.D6 a b) <| xf (h.YX axM a b) <| xf (h.YX awk a b) <| xf (h.YX axN a b) <| xf (h.I3 j a) <| xf (h.IM j a) <| xf (h.round) <| xf (h.keep a i (f:=λl=>ie l i e) (by simp[ie,pA,iZ])) <| xf (h.keep a i (f:=λl=>iH l i) (by simp[iH,pA,iZ])) <| xf (h.keep a i (f:=λl=>iW l i) (by simp[iW,pA,iZ])) <| xf (h.Gv a) <| h
theorem QO.seen{O}(h:QO O) c:D7 O c=0/\xA O c=[]:=by
 have t:∀n:Nat,(O.cur[n]?).getD 0=0:=λn=>by
  cases hx:O.cur[n]? with
  | none=>rfl
  | some x=>exact h.cur x (List.mem_of_getElem? hx)
 have j:∀n:Nat,(O.got[n]?).getD []=[]:=λn=>by
  cases hx:O.got[n]? with
  | none=>rfl
  | some x=>exact h.got x (List.mem_of_getElem? hx)
 unfold D7 xA;constructor <;> split <;> simp[t,j]
def BS(par ai:List Int)(j gw:Nat)(t W:World):Prop:=∃O k,eJ par ai gw O k (λb=>b<t.heap.size) W/\k<=588*j/\QO O/\K t W
theorem BS.st{par ai j gw t W W'}(h:BS par ai j gw t W)(k:K W W'):BS par ai j gw t W':=by obtain⟨O,n,u,y,A,B⟩:=h;exact⟨O,n,u.st k,y,A,B.tr k⟩
theorem aot par ai(cs:List AR) S L v3 w(T:aq cL par S w)(V:aq cL ai L w)(h3:aq TK cs v3 w)(hfit:∀c∈cs,ML c) :
 Calls prog 5 #[S,L,v3] w λe w'=>e=.returned (.bool true)/\Below w.heap.size w w':=by
 have C1:=ae λW=>ao2 W
 have C2:=ae λW (k:K w W)=>apQ par ai S L W (bj T k) (bj V k)
 have C3:=ae λW (k:K w W) N hh=>ajn par ai 60000 S L W (bj T k) (bj V k) N hh aj7 af (λb=>b<W.heap.size) λb hb=>hb
 obtain⟨A1,c1,rfl⟩:=av T
 obtain⟨A2,c2,rfl⟩:=av V
 obtain⟨A3,c3,rfl,pO,-⟩:=h3
 have HL:=ae pO
 have HF:=ae hfit
 go_in
 go_wp2_with fail
 refine (C1.aa w).mono ?_
 rintro e w2⟨rfl,H⟩
 go_wp2_with fail
 refine (C2.aa w2 H).mono ?_
 rintro e F⟨rfl,k3⟩
 replace H:=H.tr k3
 by_cases hg:yN par ai=true
 case neg =>
  have hg:yN par ai=false:=by simpa using hg
  rw[hg];go_wp2;go_ret;exact⟨rfl,H⟩
 rw[hg]
 obtain⟨⟨⟨h6,h8⟩,N⟩,hh⟩:((par.length<=6/\ai.length<=8)/\fK par=true)/\kN par ai=true:=by simpa [yN]using hg
 have C4:=ae (C3.aa F H N hh)
 go_wp2_with fail
 refine C4.aa.mono ?_
 rintro e w4⟨gw,rfl,B,xY⟩
 have HW:Hid (BS par ai 0 gw F w4):=ae ⟨_,_,B,aD _,QO.new,xY⟩
 go_wp2_with fail
 go_loopw [10,11] (fun i _ W=>∃j:Nat,j<=cs.length/\j<=50/\i=.int .i64 j/\Hid (BS par ai j gw F W)) (fun i _ _=>cs.length-(intOf i).toNat)
 case atStart=>exact⟨0,eE _,af,rfl,HW⟩
 case round =>
  obtain⟨j,hj,hj5,rfl,A⟩:=hrel;by_cases I:j<cs.length/\j<50
  case neg =>
   have HW:Hid (BS par ai 50 gw F wr):=ae (by
    obtain⟨O,k,B,hk,h⟩:=A.aa;exact⟨O,k,B,af,h⟩)
   by_cases aO:(j:Int)<cs.length
   case' pos=>have aA7:¬(j:Int)<50:=af
   all_goals
    go_wp2_with fail
    go_loopw [12,13] (fun i _ W=>∃t:Nat,t<=par.length/\i=.int .i64 t/\Hid (BS par ai 50 gw F W)) (fun i _ _=>par.length-(intOf i).toNat)
    case atStart=>exact⟨0,eE _,rfl,HW⟩
    case round =>
     obtain⟨t,N,rfl,A⟩:=hrel;by_cases I:t<par.length
     ·have Y4:(t:Int)<par.length:=af;obtain⟨O,k,B,Q,E,kW⟩:=A.aa;obtain⟨⟨s1,s2,s3⟩,Nd⟩:=E.state t;have J:=ae (B.state t);have G:=ae B;generalize my O t=s at *;go_wp2_with fail
      refine J.aa.mono ?_;rintro e M⟨vl,vp,va,rfl,hS,R⟩;obtain⟨⟨Al,cl,rfl⟩,⟨Aq,cq,rfl⟩,⟨Aa,ca,rfl⟩⟩:=hS.sl;obtain⟨lf,ll,lp,la⟩:=s;simp only at s1 s2 s3;subst s1 s2 s3;have C:=ah.new M 46 #[.int .u64 lf,.slice Al 0 cl,.slice Aq 0 cq,.slice Aa 0 ca];replace R:=R.tr C.aS;go_upto_region 19 with fail;generalize M.alloc _=wA at *;generalize M.heap.size=gs at C⊢;have q:=C.cell;have D:=(G.aa.st R).busy t;rw[Nd]at D;replace D:=ae D;go_wp2_with fail
      refine D.aa.mono ?_;rintro e wB⟨rfl,y⟩;replace A:=ae (A.aa.st (R.tr y));go_wp2;go_roundw
      case rel=>exact⟨t+1,af,bD,A⟩
      case measure=>simp[intOf];omega
     ·have Y4:¬(t:Int)<par.length:=af;go_wp2_with fail
      go_loopw [14] (fun i W=>∃t:Nat,t<=ai.length/\i=.int .i64 t/\Hid (BS par ai 50 gw F W)) (fun i _=>ai.length-(intOf i).toNat)
      case atStart=>exact⟨0,eE _,rfl,A⟩
      case round =>
       obtain⟨x,hxl,rfl,A⟩:=hrel;by_cases I:x<ai.length
       ·have hxi:(x:Int)<ai.length:=af;obtain⟨O,k,B,Q,E,kW⟩:=A.aa;obtain⟨e1,e2⟩:=E.seen x;have J:=B.ajQ x;have D:=B.got af (λl hl=>by rw[E.got l hl];intro b hb;cases hb) x;rw[e1]at J;rw[e2]at D;replace J:=ae J;replace D:=ae D;go_wp2_with fail
        refine J.aa.mono ?_;rintro e M⟨rfl,rfl⟩;go_wp2_with fail
        refine D.aa.mono ?_;rintro e wB⟨vB,rfl,hlB,y⟩;obtain⟨AB,cB,rfl⟩:=av hlB;replace A:=ae (A.aa.st y);go_wp2;go_roundw
        case rel=>exact⟨x+1,af,bD,A⟩
        case measure=>simp[intOf];omega
       ·have hxi:¬(x:Int)<ai.length:=af;obtain⟨O,k,B,Q,E,kW⟩:=A.aa;have kE:=H.tr kW;go_wp2;go_ret;exact⟨rfl,kE⟩
  obtain⟨I,Bq⟩:=I;have aO:(j:Int)<cs.length:=af;have aA7:(j:Int)<50:=af;have hfc:=HF.aa _ (bT I);obtain⟨b3,o3,cc,rfl,-,hrl,d0,d⟩:=ed HL.aa j I ax;generalize cs[j]=c at *;obtain⟨ve,vf,rfl,he,hf⟩:=hrl w (K.rf w);obtain⟨Z,Y,rfl⟩:=wY he;obtain⟨Af,X,rfl⟩:=b5 hf;obtain⟨O,k,B,Q,E,kW⟩:=A.aa;have kr:=H.tr kW;have:∀i,i<5->wr.cell? ⟨b3,o3+j*5+i,none⟩=(Fm c (.slice Z c.e.length Y) (.slice Af c.f.length X))[i]?:=λi hi=>(d wr kr i hi).trans Array.getElem?_toList
  have:wr.cell? ⟨b3,o3+j*5,none⟩=some (.int .i64 c.kind):=d0 wr kr;have C:=ah.new wr 55 (Fm c (.slice Z c.e.length Y) (.slice Af c.f.length X));have y:=C.aS;have HE:=ae λW (u:K w W)=>mY _ _ _ _ he u
  have GX:=ae λW (u:K w W)=>eu _ _ _ _ hf u
  have G:=ae (And.intro B (And.intro Q E));have HW:Hid (BS par ai (j+1) gw F wr):=ae ⟨O,k,B,af,E,kW⟩;go_upto_region 13 with fail;generalize wr.alloc _=w5 at *;generalize wr.heap.size=gc at C⊢;have q:=C.cell;have CG:=ae (ao1 c Z c.e.length Y Af c.f.length X w5);go_wp2_with fail
  refine CG.aa.mono ?_;rintro e U⟨rfl,k6⟩;replace C:=C.ay k6;replace y:=y.tr k6;cases hgv:QU c
  case true => replace HW:=ae (HW.aa.st y);exact XK
  have CS:=ae (ao0 c _ _ U (HE.aa U (kr.tr y)) (GX.aa U (kr.tr y)));have q:=C.cell;go_wp2_with fail
  refine CS.aa.mono ?_;rintro e w7⟨rfl,k7⟩;replace C:=C.ay k7;replace y:=y.tr k7;cases je:LQ c
  case false => replace HW:=ae (HW.aa.st y);exact XK
  have hel:c.e.length<=1000000:=by simp only[LQ,xy,dz,decide_eq_true_eq]at je;omega
  have CD:=ae (aq0 (G.aa.1.st y) h6 (by have:=G.aa.2.1;omega) c _ _ hfc (HE.aa w7 (kr.tr y)) (GX.aa w7 (kr.tr y)) hel (c.b,0,0) ⟨hfc.2.2.1,show 0<18446744073709551616 by decide,show 0<18446744073709551616 by decide⟩);have q:=C.cell;have k37:=kW.tr y;go_wp2_with fail
  refine CD.aa.mono ?_;rintro e w8⟨rfl,hQ⟩;have HW:Hid (BS par ai (j+1) gw F w8):=ae ⟨_,_,hQ.1,by have:=G.aa.2.1;omega,G.aa.2.2.did G.aa.1.1 _ _ _ _ _,hQ.k k37 λ_ h=>h⟩;exact XK
theorem anV(j t u:Value)(w:World)(B:XJ w j)(y:XJ w t)(D:aea w u) :
 Calls prog 5 #[j,t,u] w λe w'=>e=.returned (.bool true)/\Below w.heap.size w w':=by
 obtain⟨par,A,-⟩:=B
 obtain⟨ai,C,-⟩:=y
 obtain⟨cs,E,F⟩:=D
 exact aot par ai cs j t u w A C E F
