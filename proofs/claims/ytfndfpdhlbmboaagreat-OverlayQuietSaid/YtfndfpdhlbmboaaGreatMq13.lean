/-
  The overlay's clients (layer 21): Poll. Conditions: none.
-/
import Derived.Test.YtfndfpdhlbmboaaGreatMq10
import Derived.Test.YtfndfpdhlbmboaaGreatMq11
import Derived.Test.YtfndfpdhlbmboaaGreatMq12
import Derived.Test.YtfndfpdhlbmboaaGreatMqz
set_option maxRecDepth 100000
set_option maxHeartbeats 16000000
set_option linter.all false
namespace Go.Proofs.YtfndfpdhlbmboaaGreat
open Go Go.RowKit _root_.Go.Proofs.Tryz
theorem acI c:∀(l:List aL) (s:List lB) (n:Nat),(∀x∈l,ew x)->(nj c l s n).1.length<=1000000/\∀e∈(nj c l s n).1,e.length<=1000000
 | [],_,_,_=>⟨by simp[nj],by simp[nj]⟩
 | x :: r,s,n,h=>by
  unfold nj;split
  ·exact acI c r _ _ λy hy=>h y IE
  ·have t:=h x aj;have u:∀e∈pr s c x,e∈x.es:=λe j=>by
    unfold pr at j;split at j
    ·exact (List.mem_filter.1 j).1
    ·simp at j
   have A:(pr s c x).length<=x.es.length:=by
    unfold pr;split
    ·exact lQ _ _
    ·simp
   exact⟨bo A t.2.1,λe j=>t.2.2 e (u e j)⟩
theorem aqU{B}(u:bC B) c j:(mE B c j).1.length<=1000000/\∀e∈(mE B c j).1,e.length<=1000000:=by
 unfold mE;split
 ·split
  ·exact acI c _ _ _ λx t=>u.Ed.1 x (List.mem_of_mem_drop t)
  ·simp
 ·simp
theorem ayJ:(prog.info? 37).map (λi=>(i.zero,i.size,i.bytes))=some (some (.slice none 0 0),1,24):=by kernel_rfl
theorem TEE:fS prog 59 37 (.slice none 0 0) 1 24:=⟨underlying59,ayJ,rfl,ax⟩
section
variable {S:Nat->Prop} {W W2:World} {H:lN} {own:Nat->Nat} {O:bz} {par ai:List Int} {k:Nat}
theorem bn.aAO(h:bn H own O W cK)(D:oQ O) c :
 (∃d:Int,(d != 0)=true/\lZ H O c=(.pointer none,d)/\lT O c=(O,[],d)) ∨
 ∃(m:Nat) (B:bf) (gd g n:Nat),c=(m:Int)/\m<O.ai.length/\cZ O (n:Int)=some B/\lZ H O c=(.pointer (some ⟨g,0,none⟩),0)/\(∀u,K W u->dt (λk=>own k≠0/\own k≠2*n+4) (λk=>own k≠2*n+4/\k<u.heap.size) g gd B u) /\
  lT O c=(if (mE B c ((O.cur[m]?).getD 0)).2.2=0 then ({ O with cur:=O.cur.set m (mE B c ((O.cur[m]?).getD 0)).2.1,got:=if (mE B c ((O.cur[m]?).getD 0)).1=[]then O.got else O.got.modify m λg=>g++[(mE B c ((O.cur[m]?).getD 0)).1] },(mE B c ((O.cur[m]?).getD 0)).1,0)else (O,[],(mE B c ((O.cur[m]?).getD 0)).2.2)):=by
 rcases h.YU D c with ⟨d,y,A,C,t⟩|⟨n,B,gd,g,y,A,C,t,j,h6,h7,h8,h9⟩
 ·refine .inl ⟨d,y,A,?_⟩;have j:=C (α:=List (List cM)) [] λB=>(B,[],0)
  unfold ue at j;unfold lT;cases hc:ky O c
  ·simp[hc]at j⊢;exact j
  ·cases hu:cZ O (nS O c)with
   | none=>simp[hc,hu]at j⊢;exact j
   | some B=>rw[hc,hu]at t;simp at t
 ·obtain⟨m,rfl,hm⟩:=UM h7;refine .inr ⟨m,B,gd,g,n,rfl,hm,t,j,h8,?_⟩;unfold lT;rw[if_pos h7,h6];simp only[t,Int.toNat_natCast]
theorem bn.ak7(h:bn H own O W S)(F:S 2){m}(hm:m<O.got.length):∃b cap v,H.vg=.slice (some ⟨b,0,none⟩) O.got.length cap/\own b=2/\H.vs[m]?=some v/\v.oneCell'=true/\∀W',ag (λk=>own k≠2) W W'->W'.cell? ⟨b,0+m,none⟩=some v:=by
 obtain⟨X,Q,U,M,B,⟨V,T,Z,C⟩,I,N⟩:=h.fc F;obtain⟨b,cap,e⟩:=B.YT (W:=W) af;have J:=C b Cd;have t:m<H.vs.length:=af;have key:∀W',ag (λk=>own k≠2) W W'->W'.cell? ⟨b,0+m,none⟩=some H.vs[m]/\H.vs[m].oneCell'=true:=λW' u=>by have D:=(B.to u (λ_ _=>trivial) (λk hk e=>e (C k hk)) (Y':=λ_=>True) λ_ _ _=>.inl trivial).aq;obtain⟨A,c,y,L,-⟩:=D;rw[e]at y;injection y with e1 e2 e3;subst e1;obtain⟨R,Y,cs,j,-,G,E,-⟩:=ed L m t ax;injection j with j;injection j with j e5;subst j e5;obtain⟨rfl,h9⟩:=G W' (K.rf W');have:=E W' (K.rf W');simp only[show yo.size=1 from rfl,Nat.mul_one]at this;exact⟨this,h9⟩
 exact⟨b,cap,H.vs[m],by rw[e,I],J,List.getElem?_eq_getElem t,(key W (ag.rf _ _)).2,λW' u=>(key W' u).1⟩
theorem apH(h:bn H own O W cK)(hI:bM par ai O k)(hk:k<=40000) c :
 Calls prog 15 #[.pointer (some ⟨H.gw,0,none⟩),.int .i64 c] W λe w'=>∃v,e=.returned (.tuple #[v,.int .i64 (lT O c).2.2])/\aq cI (lT O c).2.1 v w'/\cQ H own (lT O c).1 W w':=by
 have hs:=hI.fZ
 have Y:=ae (OT h p2 pB hs c)
 rcases h.aAO hs c with ⟨d,hne,G,hp⟩|⟨m,B,gd,g,n,rfl,hm,hu,G,hL,hp⟩
 ·have HR:=ae hp;have HK:=ae λC (t:K W C)=>h.now t
  rw[G]at Y;generalize lT O c=R at *;clear h hI hp G hs;go_in;go_wp2_with fail
  apply aI Y.aa;intro C t;have HF:=ae (HK.aa C t);have HE:=ae (aC.nil (λ_=>True) 0 51 cI C).aq;clear Y t HK;exact XH
 obtain⟨hG,Fj,-⟩:=hI.up hu
 have je:=aqU hG.tobC (m:Int) ((O.cur[m]?).getD 0)
 have sG:=ae je
 have HP:=ae hp
 have:=ae hs
 rw[G]at Y
 have HH:=ae λC (t:K W C)=>h.st t
 have HLv:=ae hL
 have Sy:=ae hI.gl
 have hmc:m<O.cur.length:=XG
 have Z:m<O.got.length:=by have:=hs.lg;omega
 have:(m:Int)<O.cur.length:=af
 have HVB:Hid ((∀v,H.vs[m]?=some v->∀b,v.ownBlock=some b->b<W.heap.size)/\∀b,H.vg.ownBlock=some b->b<W.heap.size):=ae ⟨λv G b hb=>by
  obtain⟨v0,L,h2,-⟩:=h.got m O.got[m] (show cK (2*m+5) by unfold cK;omega) (List.getElem?_eq_getElem Z);rw[G]at L;injection L with L;subst L;exact (h2.blk b hb).2,λb hb=>((h.fc p2).got.blk b hb).2⟩
 obtain⟨T,aFU,aFV,ec,oc,hbc,-⟩:=h.ak6 p2 hmc 0
 have zq:∀W',K W W'->W'.cell? ⟨T,m,none⟩=some (.int .i64 ((O.cur[m]?).getD 0)):=by obtain⟨b9,o9,c9,j,h9⟩:=h.ak5 p2 hs hm;rw[ec]at j;injection j with j;injection j with j;injection j with e1 e2;subst e1 e2;exact λW' k=>by simpa using h9 W' k
 generalize lT O (m:Int)=R at *
 generalize hx:(O.cur[m]?).getD 0=x at *
 have q:=(h.fc p2).blk.cells
 rw[ec]at q
 clear hI hp G hs hG Fj hu je hL
 go_in
 go_wp2_with fail
 apply aI Y.aa
 intro C t
 have C3:=ae (azm (HLv.aa C t) (m:Int) x)
 have q2:=q C t
 have qc:=zq C t
 clear Y HLv
 go_wp2_with fail
 refine C3.aa.mono ?_
 rintro e D⟨v3,rfl,bQ,k3⟩
 obtain⟨A3,c3,rfl,-⟩:=bQ.slice
 generalize mE B (m:Int) x=r at *
 obtain⟨y,I,code⟩:=r
 have F:=t.tr k3
 have h3:=HH.aa D F
 by_cases hc:code=0
 ·subst hc;have HR:Hid (R=({ O with cur:=O.cur.set m I,got:=if y=[]then O.got else O.got.modify m λg=>g++[y] },y,0)):=ae Xc;obtain⟨b9,aFW,aFX,j,ob9,bq,E⟩:=h3.ak6 p2 hmc I;rw[ec]at j;injection j with j;injection j with j;injection j with j;subst j;have q3:=q D F;have qc3:=zq D F;have z3:=bq.frozen;have M:=ae E;have H3:=ae h3;have HO3:=ae bQ;have JD:=ae (And.intro F k3);have bS:=bw hbc.lt t.size;have u4:ag (λk=>k=T) D (D.setCell ⟨T,m,none⟩ (.int .i64 I)):=ag.bK (X:=λk=>k=T) rfl m _;have uI:=ae (show ag (λk=>2<=own k) W (D.setCell ⟨T,m,none⟩ (.int .i64 I))from (ag.aU F _).tr (u4.more λk e=>by rw[e,oc];exact aD 2));have EY:=ae (bQ.up (w':=D.setCell ⟨T,m,none⟩ (.int .i64 I)) (aD _) (aK.set bS m _));have GY:=ae (show W.heap.size<=C.heap.size from t.size);clear C3 q q2 qc zq t k3 F h3 E bQ bq h hbc HH HP u4;go_upto_region 8 with fail;generalize D.setCell _ _=Q at *;by_cases he:y=[]
  ·subst he;have HF:=ae (show cQ H own { O with cur:=O.cur.set m I } W Q from ⟨H,own,M.aa,rfl,uI.aa,λ_ _=>rfl⟩);have h9:¬(0:Int)<0:=af;clear uI M H3 q3 qc3 z3;go_wp2;go_ret2;exact⟨_,fJ,by rw[HR.aa];exact EY.aa.aq,DZ⟩
  ·have:(0:Int)<(y.length:Int):=by have:=List.length_pos_iff.2 he;omega
   have E:=M.aa;obtain⟨bg,aFY,v,eg,og,Ow,h1c,TG⟩:=E.ak7 p2 Z;obtain⟨l,hl⟩:∃l,O.got[m]?=some l:=⟨_,List.getElem?_eq_getElem Z⟩;obtain⟨v',hv',hO,TH⟩:=E.got m l (show cK (2*m+5) by unfold cK;omega) hl;rw[Ow]at hv';injection hv' with hv';subst hv';have:=bo (Sy.aa l (List.mem_of_getElem? hl)) hk;have hrow:=hO.blk;have hq:∀W,rA v Q W->∀i,W.cell? ⟨H.gw,i,none⟩=#[H.vp,H.vh,H.vn,H.vd,.map (some H.gb),H.vc,H.vg][i]?:=λW u=>((E.fc p2).blk.aX u λe=>by have:=TH _ e;have:=(E.fc p2).own.1;omega).cell
   have td:∀W,rA v Q W->W.cell? ⟨bg,m,none⟩=some v:=λW u=>by simpa using TG W (u.more λk e=>by have:=TH k e;omega)
   rw[eg]at hq;have YV:(m:Int)<O.got.length:=af;have Tn:=ae λW (u:rA v Q W)=>abP y _ W ((EY.aa.up (aD _) (u.rI λk L h2 _ e=>ajf)).aq) sG.aa.1 sG.aa.2
   clear q3 qc3 z3 E TG H3 HO3 JD;go_wp2_with fail
   have qs:=And.intro hq (And.intro td YV);refine Fp 16 15 l v y 59 TEE [([],[]),([0],[(46,0)]),([1],[(47,1)]),([2],[(48,2)]),([],[]),([],[]),([5],[(51,5)]),([6],[(52,6)]),([7],[(53,7)]),([],[]),([8,9],[(54,8),(55,9)]),([10],[(56,10)]),([],[]),([12],[(58,12)]),([13],[(59,13)]),([11,14],[(57,11),(60,14)]),([0,1,2,3,4,5,6,7,8,9,10,11,12,13,14,15],[(49,3),(50,4)]),([0,1,2,3,4,5,6,7,8,9,10,11,12,13,14,15,16],[(62,16),(61,15)])] 64 hO (eE _) af ?_;iterate 13 refine ar.i ?_
   refine ar.c (λu W=>∃A c,u=.slice A y.length c/\Fx (λk=>k<Q.heap.size) (λW=>aq cI y u W) W) (λ_ _ _ ⟨A,c,e,h⟩ k=>⟨A,c,e,h.up (ag.eP (X:=λb=>v.ownBlock=some b) k λ_ h=>h) λb hb=>(hrow b hb).2⟩) (λW u=>(Tn.aa W u).mono λe w5 ⟨v5,e1,U,k5⟩=>⟨v5,e1,(by
    obtain⟨A,c,e5,-⟩:=U.slice;exact⟨A,c,e5,U.JP λk hk=>bw hk u.size⟩),k5⟩) ?_
   refine ar.Gp (S:=AW cI) (N:=λk=>own k≠0∨v.ownBlock=some k) Q.heap.size TEE y (λ_ h=>h.size) (λb hb=>⟨.inr hb,(hrow b hb).2⟩) (λV W J hp=>?_) ?_
   ·simp only[cz,aN,aQ,bV,bW,aJ]at hp;obtain⟨⟨A,c,e,hF⟩,-⟩:=hp;show uv _ _ _ (V 13) _;refine⟨Cd,λW' u=>⟨V 13,Cd,hF W' (u.more λk hk=>hk.elim (M.aa.lo k) λhk=>(hrow k hk).2)⟩⟩
   refine ar.s ?_;clear qs;refine⟨λ_ _=>trivial,λV W J hp=>?_,λV W J bE sH hA=>?_⟩
   ·exact ID
   simp only[aN,aQ,b6,aJ,Nat.reduceAdd]at hA;obtain⟨A9,c9,sE⟩:=bE.slice;obtain⟨b9,zL,cr9,j,o9,bq,aAP,U,mM⟩:=M.aa.aAL p2 (show cK (2*m+5) by unfold cK;omega) hl Ow J bE sH;rw[eg]at j;injection j with j;injection j with j;injection j with j;subst j;have hq9:=td W J;have sE:V 15=.slice A9 (l.length+1) c9:=by simpa using sE
   have hA:=And.intro hA sE;have qs:=And.intro hq9 (And.intro bq.frozen (And.intro Z YV));refine aH.p ?_;refine aH.s ?_;refine aH.h ?_;rw[sE]at U;have hsz:bg<C.heap.size:=by have:=HVB.aa.2 bg (by rw[eg];rfl);have:=GY.aa;omega
   have HE:=ae ((EY.aa.up (aD _) (J.rI λk L h2 _ e=>ajf)).up (aD _) (aK.set hsz m (.slice A9 (l.length+1) c9))).aq;have eG:(if y=[]then O.got else O.got.modify m λg=>g++[y])=O.got.set m (l++[y]):=by
    rw[if_neg he];refine List.ext_getElem? λi=>?_
    rw[List.getElem?_modify,List.getElem?_set];by_cases hi:m=i
    ·subst hi;simp[Z];exact (List.getElem?_eq_some_iff.1 hl).2
    ·simp[hi]
   rw[eG]at HR;have HF:=ae (show cQ H own { O with cur:=O.cur.set m I,got:=O.got.set m (l++[y]) } _ (W.setCell ⟨bg,m,none⟩ (.slice A9 (l.length+1) c9))from ⟨_,aAP,U,rfl,(uI.aa.tr (J.more λk e=>by have:=TH k e;omega)).tr (ag.bK (X:=λk=>2<=own k) (by rw[og];exact aD 2) m _),λk hk=>mM k (bw hk uI.aa.size)⟩);clear hA qs hq9 bq U mM bE sH J hq td hO TH hrow sE Tn EY uI M HVB Sy hsz;generalize W.setCell _ _=W9 at *;exact XH
 ·have hne:(code != 0)=true:=DX;have HR:Hid (R=(O,[],code)):=ae (by rw[HP.aa];exact if_neg hc);have HF:=ae (show cQ H own O W D from cQ.k F (h3.now (K.rf D)));have HE:=ae (aC.nil (λ_=>True) 0 51 cI D).aq;clear C3 q q2 qc zq t k3 F h3 bQ h hbc HH HP;exact XH
end
def xA(O:bz)(c:Int):List (List (List cM)):=if ky O c then (O.got[c.toNat]?).getD []else []
section
variable {S:Nat->Prop} {W W2:World} {H:lN} {own:Nat->Nat} {O:bz} {par ai:List Int} {k:Nat}
theorem aqV(h:bn H own O W cK)(hI:bM par ai O k)(hk:k<=40000)(hs:∀l∈O.got,∀b∈l,b.length<=1000000/\∀e∈b,e.length<=1000000) c :
 Calls prog 26 #[.pointer (some ⟨H.gw,0,none⟩),.int .i64 c] W λe w'=>∃v,e=.returned v/\aq (AW cI) (xA O c) v w'/\K W w':=by
 have E:=ae (Ua h p2 c)
 have q:=(h.fc p2).blk.cells
 cases hc:ky O c
 ·have HR:Hid (xA O c=[]):=ae (by unfold xA;rw[hc];rfl);rw[hc]at E;generalize xA O c=R at *;go_in;go_wp2_with fail
  apply aI E.aa;rintro w' rfl;have HE:=ae (aC.nil (λ_=>True) 0 37 (AW cI) w').aq;have kk:=K.rf w';go_wp2;go_ret;exact⟨_,rfl,by rw[HR.aa];exact HE.aa,kk⟩
 rw[hc]at E
 obtain⟨m,rfl,hm⟩:=UM hc
 have U:m<O.got.length:=by have:=hI.fZ.lg;omega
 obtain⟨l,F⟩:∃l,O.got[m]?=some l:=⟨_,List.getElem?_eq_getElem U⟩
 have HR:Hid (xA O (m:Int)=l):=ae (by unfold xA;rw[if_pos hc];simp[F])
 have:=bo (hI.gl l (List.mem_of_getElem? F)) hk
 have Ti:=ae (hs l (List.mem_of_getElem? F))
 obtain⟨b,cap,v,eg,og,Ow,h1c,TG⟩:=h.ak7 p2 U
 obtain⟨v',D,C,-⟩:=h.got m l (show cK (2*m+5) by unfold cK;omega) F
 rw[Ow]at D
 injection D with D
 subst D
 obtain⟨A,ca,rfl,mL,-⟩:=C.aq
 have td:=TG W (ag.rf _ _)
 rw[mz]at td
 rw[eg]at q
 have:=q W (K.rf W)
 have:(m:Int)<O.got.length:=af
 have JK:=ae mL
 generalize xA O (m:Int)=R at *
 go_in
 go_wp2_with fail
 apply aI E.aa
 rintro w' rfl
 have KK:=ae (K.rf w')
 have:=ae (aC.nil (λk=>k<w'.heap.size) w'.heap.size 37 (AW cI) w')
 go_wp2_with fail
 go_loopw [5,7,20] (fun o _ i W=>∃j:Nat,j<=l.length/\i=.int .i64 j/\Hid (aC (fun k=>k<w'.heap.size) w'.heap.size 37 (AW cI) (l.take j) o W)/\Hid (K w' W)) (fun _ _ i _=>l.length-(intOf i).toNat)
 case atStart=>exact⟨0,eE _,rfl,fk,KK⟩
 case round =>
  obtain⟨j,hj,rfl,X,y⟩:=hrel;by_cases hlt:j<l.length
  ·have aO:(j:Int)<l.length:=af;have HT:Hid (l.take (j+1)=l.take j++[l[j]]):=ae II;have V:=Ti.aa _ (bT hlt);obtain⟨b1,off,cs0,rfl,-,hrl,B,-⟩:=ed JK.aa j hlt ax;have:(l.take j).length<=40000:=aY;have B:=B wr y.aa;obtain⟨ve,rfl,G⟩:=hrl wr y.aa;generalize l[j]=t at *;simp only[show (AW cI).size=1 from rfl,Nat.mul_one]at B;have C2:=ae (abP t ve wr G V.1 V.2);obtain⟨Ae,ce,rfl⟩:=av G;have B:wr.cell? ⟨b1,off+j,none⟩=some (.slice Ae t.length ce):=B;have I:=X.aa;have:=y.aa.size;go_wp2_with fail
   apply bN C2.aa;rintro v3 T⟨Q,Z⟩;obtain⟨A3,c3,rfl,-⟩:=Q.slice;have hub:=I.blk;have hr:=ez.new (S:=AW cI) (e:=37) (N:=λk=>k<w'.heap.size∨u5.ownBlock=some k) (v:=.slice A3 t.length c3) (x:=t) (w:=T) (λW u=>⟨_,rfl,Q.JP (M:=λk=>k<w'.heap.size∨u5.ownBlock=some k) (λk hk=>hk.elim (λh=>af) λh=>(hub k h).2) W u⟩) 0 (eE _);have Y:=K.new T (.cells #[.slice A3 t.length c3] 37);have cY:=(I.st Z).st Y;have L:=(y.aa.tr Z).tr Y;have il:=L.size;go_wp2_with (at_builtin;refine jz rfl _ _ 59 rfl _ 1 24 TEE rfl rfl cY _ rfl t ?p1 ?p2 ?p3 ?_)
   case p1=>exact hr
   case p2=>omega
   case p3=>exact il
   intro v9 w9 J cd eS bq;rw[<- HT.aa]at J;have xV:=ae J;have HK9:=ae (L.trans bq);go_wp2;exact⟨⟨j+1,af,bD,xV,HK9⟩,IQ⟩
  ·have aO:¬(j:Int)<l.length:=af;have C:=X.aa;rw[gI af]at C;have HF:=ae C.aq;have ZE:=y.aa;go_wp2;go_ret;exact⟨_,rfl,DZ,ZE⟩
end
section
variable {S:Nat->Prop} {W W2:World} {H:lN} {own:Nat->Nat} {O:bz} {par ai:List Int} {k:Nat}
theorem ajg{w W' g s vl vp va cs}(hb:ah W' g 46 cs)(j:cs.size=4)(hg:w.heap.size<=g)(k:K w W')(t:lG (λk=>k<w.heap.size∨k=g) s vl vp va W') :
 (∀i,((((W'.setCell ⟨g,0,none⟩ (.int .u64 s.life)).setCell ⟨g,1,none⟩ vl).setCell ⟨g,2,none⟩ vp).setCell ⟨g,3,none⟩ va).cell? ⟨g,i,none⟩=#[Value.int .u64 s.life,vl,vp,va][i]?) /\
  lG (λk=>k<w.heap.size) s vl vp va ((((W'.setCell ⟨g,0,none⟩ (.int .u64 s.life)).setCell ⟨g,1,none⟩ vl).setCell ⟨g,2,none⟩ vp).setCell ⟨g,3,none⟩ va)/\K w ((((W'.setCell ⟨g,0,none⟩ (.int .u64 s.life)).setCell ⟨g,1,none⟩ vl).setCell ⟨g,2,none⟩ vp).setCell ⟨g,3,none⟩ va) :=
 ⟨(FO (us:=[.int .u64 s.life,vl,vp,va]) hb (by rw[j];rfl)).cell,Fx.to t (ag.sets (X:=λk=>k=g) rfl [.int .u64 s.life,vl,vp,va] 0 W') (λ_ h=>.inr h) (λ_ _ h=>.inl h),K.sets hg [.int .u64 s.life,vl,vp,va] 0 W' k⟩
theorem awe{d s}(j:gU d s):sW (d.eZ.map bJ)=(s,0):=by
 have:=aes d.eZ (λr t=>⟨(j.eZ r t).1,(j.eZ r t).2.1⟩) cV s j.run
 unfold sW
 grind
theorem ad6{d s}(hG:gU d s):∀b∈d.eZ.map bJ,ib b=true:=agQ
theorem bn.stt(h:bn H own O W S)(N:S 2)(u:∀n,S (2*n+4))(t:bM par ai O k) n(G:ko O n=true) :
 (∃g gd X Z B,cZ O n=some B/\cT H.ak n=some (.pointer (some ⟨g,0,none⟩))/\my O n=B.st/\∀W',K W W'->dt X Z g gd B W') ∨
 ∃i gd vh d s,n=((i:Nat):Int)/\cZ O n=none/\H.ds[i]?=some gd/\cT H.ak n=none/\my O n=s/\gU d s/\∀W',K W W'->JJ gd vh d W':=by
 cases hu:cZ O n with
 | some B => obtain⟨i,rfl,F,x,P,M⟩:=Ck hu;obtain⟨gd,g,y,D,E⟩:=h.up (u i) t.fZ.ln hu;exact .inl ⟨g,gd,_,_,B,rfl,D,by grind [my],λW' j=>E.st j⟩
 | none => obtain⟨i,rfl,F,d,s,C,A,-⟩:=t.down G hu;obtain⟨gd,y,-,J⟩:=h.brk i _ (u i) C;obtain⟨L,vh,I,-⟩:=J rfl;exact .inr ⟨i,gd,vh,d,s,rfl,rfl,y,L,by grind [my,F6],A,λW' j=>I.st j⟩
theorem abQ(h:bn H own O W S)(y:S 2)(hS:∀n,S (2*n+4))(hI:bM par ai O k) n :
 Calls prog 19 #[.pointer (some ⟨H.gw,0,none⟩),.int .i64 n] W λe w'=>∃vl vp va,e=.returned (.agg (cJ (my O n) vl vp va))/\lG (λk=>k<W.heap.size) (my O n) vl vp va w'/\K W w':=by
 have A:=ah.new W 46 #[.int .u64 0,.slice none 0 0,.slice none 0 0,.slice none 0 0]
 have j:=A.aS
 have C:=ae (KU (h.st j) y n)
 have q:=(h.fc y).blk.cells
 cases hi:ko O n
 ·have HR:Hid (my O n=cV):=ae (by unfold my;rw[hi];rfl);generalize my O n=R at *;rw[hi]at C;have HF:=ae (show lG (λk=>k<W.heap.size) cV (.slice none 0 0) (.slice none 0 0) (.slice none 0 0) (W.alloc (.cells #[.int .u64 0,.slice none 0 0,.slice none 0 0,.slice none 0 0] 46))/\K W (W.alloc (.cells #[.int .u64 0,.slice none 0 0,.slice none 0 0,.slice none 0 0] 46))from
   ⟨λW' _=>⟨(aC.nil (λ_=>True) 0 126 aW W').aq,(aC.nil (λ_=>True) 0 126 aW W').aq,(aC.nil (λ_=>True) 0 26 bZ W').aq⟩,j⟩)
  have qr:=A.cell;have zr:=A.frozen;clear h hI hi y hS q j;go_in;go_wp2_with fail
  apply aI C.aa;rintro w' rfl;clear C A;go_wp2;refine bodyPost_ret (v:=.agg #[.int .u64 0,.slice none 0 0,.slice none 0 0,.slice none 0 0]) (by simp[results,results19,go_sem,qr]) rfl ?_;exact⟨_,_,_,fJ,by rw[HR.aa];exact HF.aa.1,HF.aa.2⟩
 rw[hi]at C
 have Y:=h.q y
 have HK1:=ae j
 rcases h.stt y hS hI n hi with ⟨g,gd,X,Z,B,hu,G,L,hL⟩|⟨i,gd,vh,d,s,rfl,hu,hd,G,L,hG,hD⟩
 ·have M:=ae (ayE (hL _ j));have D:=(Y _ j n).1;rw[G]at D;simp only[Option.getD_some,Option.isSome_some]at D;have q1:=q _ j;rw[L];generalize B.st=R at *;have HQ:=ae λu (t:K (W.alloc (.cells #[.int .u64 0,.slice none 0 0,.slice none 0 0,.slice none 0 0] 46)) u) vl vp va (hF:lG _ R vl vp va u)=>ajg (w:=W) (A.ay t) rfl (aD _) (j.tr t) (Fx.less hF λk hk=>(show k<(W.alloc (.cells #[.int .u64 0,.slice none 0 0,.slice none 0 0,.slice none 0 0] 46)).heap.size by simp;omega))
  clear h hI hi y hS q j hL hu G L Y;go_in;go_wp2_with fail
  apply aI C.aa;rintro w' rfl;go_wp2_with fail
  refine M.aa.mono ?_;rintro e u⟨vl,vp,va,rfl,NJ,t⟩;have HP:=ae (HQ.aa u t vl vp va NJ);obtain⟨⟨V,c1,rfl⟩,⟨U,c2,rfl⟩,A3,c3,rfl⟩:=NJ.sl;have dU:=A.ay t;have qr:=dU.cell;have zr:=dU.frozen;clear C M HQ NJ t A dU D q1;go_wp2;obtain⟨e9,F,E⟩:=HP.aa;refine bodyPost_ret (v:=.agg #[.int .u64 R.life,.slice V R.list.length c1,.slice U R.prom.length c2,.slice A3 R.ab.length c3]) ajh rfl ?_;exact⟨_,_,_,rfl,F,E⟩
 ·have D:=(Y _ j (i:Int)).1;rw[G]at D;simp only[Option.getD_none,Option.isSome_none]at D;obtain⟨b,off,c,DF,hnl,H5⟩:=h.I9 hd;have Od:(i:Int)<H.ds.length:=af;rw[DF]at q;have q1:=q _ j;rw[L];have HD:=ae hD;have HDC:=ae λW' (k:K W W')=>H5 W' (ag.aU k _)
  have HQ0:=ae q;have hfit:=hG.fit;have hroom:=hG.room;have bS:(jf d).length=ir d.eZ:=OZ d.eZ;have hlen:(jf d).length<=1048576:=af;have ak8:=ae hlen;have N:=ae hG;have hN:∀w,Calls prog 41 #[.int .i64 1048576] w λe w'=>e=.returned (.tuple #[.pointer (some ⟨w.heap.size,0,none⟩),.int .i64 0])/\gG w.heap.size (.slice none 0 0) [] 0 1048576 w'/\K w w':=λw=>agC 1048576 w (aD _)
  have C2:=ae hN;have ZT:=ae A;clear h hI hi y hS q hu G L Y hd H5 DF hD hG hfit hroom bS hlen hN;go_in;go_wp2_with fail
  apply aI C.aa;rintro w' rfl;go_wp2_with fail
  refine (C2.aa _).mono ?_;rintro e u⟨rfl,sK,t⟩;have I:=j.tr t;have q3:=HQ0.aa u I;have aAQ:=HDC.aa u I;have M:=ae (ach _ _ _ _ _ u (HD.aa u I));have HDN:=ae sK;have NA:(W.alloc (.cells #[.int .u64 0,.slice none 0 0,.slice none 0 0,.slice none 0 0] 46)).heap.size=W.heap.size+1:=aj;generalize hgd:(W.alloc (.cells #[.int .u64 0,.slice none 0 0,.slice none 0 0,.slice none 0 0] 46)).heap.size=gn at *;have G1:=ae I;have yd:=ae (ZT.aa.ay t);have HGN:=ae NA;clear C C2 D q1 sK t I hgd NA;go_wp2_with fail
  refine M.aa.mono ?_;rintro e w4⟨v4,rfl,fw,J⟩;have hap:tj [] (jf d) 1048576=(jf d,0):=by have:=ak8.aa;unfold tj;rw[if_pos (by simpa using this)];rfl
  have hC4:=abG gn (.slice none 0 0) v4 [] (jf d) 0 1048576 w4 (HDN.aa.st J) (eK fw) (by have:=ak8.aa;omega);rw[hap]at hC4;have C4:=ae hC4;obtain⟨A4,c4,rfl,-⟩:=eK fw;have il:=J.size;have HK4:=ae (G1.aa.tr J);have HR4:=ae (yd.aa.ay J);clear M fw hap hC4 J q3 aAQ il;go_wp2_with fail
  refine C4.aa.mono ?_;rintro e w5⟨vh5,rfl,hd5,Fc⟩;have hX5:∀k,kZ gn vh5 k->W.heap.size+1<=k:=λk hk=>by
   have h1:=HGN.aa;have y:=HK4.aa.size;have h3:=HR4.aa.lt;rcases Fc.new k hk with h|h
   ·rcases h with h|h
    ·omega
    ·cases h
   ·omega
  have C5:=ae (acj gn vh5 (d.eZ.map bJ) 1048576 w5 hd5 (ad6 N.aa));have u5:ag (λk=>W.heap.size+1<=k) w4 w5:=Fc.up.more λk hk=>by
   rcases hk with h|h
   ·have:=HGN.aa;omega
   ·cases h
  have NH:=ae (u5.k HK4.aa λk hk=>af);have HR5:=ae (HR4.aa.aX u5 λh=>af);have NI:=ae hX5;clear C4 hd5 Fc hX5 u5;go_wp2_with fail
  refine C5.aa.mono ?_;rintro e w6⟨gl,vr,rfl,gF,Rv,mQ,-,u6⟩;have u6':=u6.more NI.aa;have I4:=N.aa.cnt;have Dy:∀b∈d.eZ.map bJ,b.length<=1000000000:=λb hb=>by have:=ad6 N.aa b hb;simp[ib]at this;omega
  have C6:=ae (abC gl _ vr (d.eZ.map bJ) w6 Rv mQ.aq aB Dy);have HK6:=ae (u6'.k NH.aa λk hk=>af);have HR6:=ae (HR5.aa.aX u6' λh=>af);clear C5 Rv mQ u6 u6' I4 Dy NI gF;go_wp2_with fail
  refine C6.aa.mono ?_;rintro e w7⟨v7,rfl,km,k7⟩;have Q:=N.aa.YQ v7 w7 km.aq;rw[awe N.aa]at Q;obtain⟨A7,c7,rfl⟩:=km.slice;rw[List.length_map]at Q;have C7:=ae Q;have Sv:=ae (HK6.aa.tr k7);have HR7:=ae (HR6.aa.ay k7);clear C6 km Q k7;go_wp2_with fail
  refine C7.aa.mono ?_;rintro e w8⟨vl,vp,va,rfl,hF8,k8⟩;have T:=(HR7.aa.ay k8).alloc (.cells (cJ s vl vp va) 46);have E:=(Sv.aa.tr k8).al (.cells (cJ s vl vp va) 46);have F:lG _ s vl vp va _:=Fx.k hF8 ((K.rf w8).al (.cells (cJ s vl vp va) 46));have Jp:=Sv.aa.size;have M0:=HR7.aa.lt;have HP:=ae (ajg (w:=W) T rfl (aD _) E (Fx.less F λk hk=>(show k<w7.heap.size by omega)));obtain⟨⟨V,c1,rfl⟩,⟨U,c2,rfl⟩,A3,c3,rfl⟩:=hF8.sl;have hn8:=ah.new w8 46 (cJ s (.slice V s.list.length c1) (.slice U s.prom.length c2) (.slice A3 s.ab.length c3));have qn:=hn8.cell;have qr:=T.cell;have zr:=T.frozen;clear C7 hF8 k8 T E F Jp M0 hn8;go_wp2;obtain⟨e9,F,E⟩:=HP.aa;refine bodyPost_ret (v:=.agg #[.int .u64 s.life,.slice V s.list.length c1,.slice U s.prom.length c2,.slice A3 s.ab.length c3]) ajh rfl ?_;exact⟨_,_,_,rfl,F,E⟩
end
section
variable {S:Nat->Prop} {W W2:World} {H:lN} {own:Nat->Nat} {O:bz} {par ai:List Int} {k:Nat}
theorem axG{X Z g gd B}(h:dt X Z g gd B W) :
 Calls prog 66 #[.pointer (some ⟨g,0,none⟩)] W λe w'=>∃v',e=.returned v'/\aq cW B.aA v' w'/\K W w':=by
 obtain⟨u,p,hb,hg,-⟩:=h
 obtain rfl:=kg hg
 exact (apj hb u.tobC).mono λe w' ⟨v',t,j,k⟩=>⟨v',t,j.aq,k⟩
theorem ayK{X Z g gd B}(h:dt X Z g gd B W) :
 Calls prog 67 #[.pointer (some ⟨g,0,none⟩)] W λe w'=>∃A c,e=.returned (.slice A B.waits.length c)/\K W w':=by
 obtain⟨t,p,hb,hg,-⟩:=h
 obtain rfl:=kg hg
 exact (aoh hb t.tobC).mono λe w' ⟨v',u,j,k⟩=>by
  obtain⟨A,c,rfl⟩:=j.slice
  grind
theorem adh a b c d W:(Instr.field 46 (.agg #[a,b,c,d]) 2).run prog W=.ok c W:=by rfl
theorem asq(l:List eo)(j:Nat)(t:j<l.length):((l.take (j+1)).filter (·.asked)).length=((l.take j).filter (·.asked)).length+if l[j].asked then 1 else 0:=by rw[gg t,List.filter_append,dq,List.filter_cons];split <;> simp
theorem bM.prom(h:bM par ai O k) n:(my O n).prom.length<=6:=by
 unfold my;split
 ·next hi =>
  cases hu:cZ O n with
  | some B=>exact (h.up hu).2.1.inv.prom
  | none =>
   obtain⟨i,rfl,-,d,s,j,t,-,-,hp⟩:=h.down hi hu
   grind [F6]
 ·simp[cV]
theorem apI(h:bn H own O W S)(D:S 2)(G:∀n,S (2*n+4))(y:bM par ai O k) n :
 Calls prog 24 #[.pointer (some ⟨H.gw,0,none⟩),.int .i64 n] W λe w'=>e=.returned (.int .i64 (Eo O n:Int))/\K W w':=by
 have C1:=ae (abQ h D G y n)
 have A:=ae λW' (k:K W W')=>Ph (h.st k) D G y.fZ n
 have HB:Hid (Eo O n=(my O n).prom.length+(match cZ O n with|some B=>(B.aA.filter (·.asked)).length+B.waits.length|none=>0)):=ae rfl
 have q:=(h.fc D).blk.cells
 have ql:=h.q D
 have:=y.prom n
 generalize Eo O n=R at *
 generalize my O n=s at *
 cases hu:cZ O n with
 | none =>
  have HR:Hid (R=s.prom.length):=ae (by rw[HB.aa,hu];rfl);rw[hu]at A;go_in;go_wp2_with fail
  refine C1.aa.mono ?_;rintro e u⟨vl,vp,va,rfl,F,k1⟩;obtain⟨-,⟨A2,c2,rfl⟩,-⟩:=F.sl;have fp:=adh;have M:=ae (A.aa u k1);go_wp2_with fail
  apply aI M.aa;rintro w' rfl;exact mW
 | some B =>
  have HR:Hid (R=s.prom.length+((B.aA.filter (·.asked)).length+B.waits.length)):=ae (by rw[HB.aa,hu]);obtain⟨i,rfl,hlt,x,hx1,hx2⟩:=Ck hu;obtain⟨gd,g,e1,e2,hL⟩:=h.up (G i) y.fZ.ln hu;have Y:=(y.up hu).1;have:=Y.y5;have im:=Y.tx.y6;have HL:=ae λW' (k:K W W')=>hL.st k
  rw[hu]at A;have L:=λW' (k:K W W')=>(ql W' k i).2
  rw[e2]at L;simp only[Option.getD_some]at L;go_in;go_wp2_with fail
  refine C1.aa.mono ?_;rintro e u⟨vl,vp,va,rfl,F,k1⟩;obtain⟨-,⟨A2,c2,rfl⟩,-⟩:=F.sl;have fp:=adh;have M:=ae (A.aa u k1);have C3:=ae (axG (HL.aa u k1));have:=q u k1;have:=L u k1;have HK1:=ae k1;go_wp2_with fail
  apply aI M.aa;rintro w' rfl;go_wp2_with fail
  apply bN C3.aa;rintro v3 U⟨bQ,k3⟩;obtain⟨A3,c3,rfl,mL,-⟩:=bQ;have Q:=ae (HK1.aa.tr k3);have JK:=ae mL;go_wp2_with fail
  go_loopw [5,28] (fun b J Wj=>∃j:Nat,j<=B.aA.length/\J=.int .i64 j/\b=.int .i64 ((s.prom.length+((B.aA.take j).filter (·.asked)).length:Nat):Int)/\K U Wj) (fun _ J _=>B.aA.length-(intOf J).toNat)
  case atStart=>exact⟨0,eE _,rfl,aj,K.rf U⟩
  case round =>
   obtain⟨j,hj,rfl,rfl,kr⟩:=hrel;by_cases hlt':j<B.aA.length
   ·have aO:(j:Int)<B.aA.length:=af;obtain⟨X,Z,cs0,rfl,-,hrl,E,d⟩:=ed JK.aa j hlt' ax;have I:=asq B.aA j hlt';have C:=ae I;obtain⟨vf,ve,rfl,⟨Af,V,rfl,-⟩,⟨T,N,rfl,-⟩⟩:=hrl wr kr;have I4:((B.aA.take j).filter (·.asked)).length<=1000000:=bo (lQ _ _) (by rw[p8];omega);generalize B.aA[j]=t at *;have E:=E wr kr;have d:∀i,i<9->wr.cell? ⟨X,Z+j*9+i,none⟩=(gP t (.slice Af t.e.f.length V) (.slice T t.e.es.length N))[i]?:=λi hi=>(d wr kr i hi).trans Array.getElem?_toList
    have E:wr.cell? ⟨X,Z+j*9,none⟩=some (.int .i64 t.e.kind):=E;have:=ah.new wr 128 (gP t (.slice Af t.e.f.length V) (.slice T t.e.es.length N));cases ha:t.asked
    ·have C:=ae (show ((B.aA.take (j+1)).filter (·.asked)).length=((B.aA.take j).filter (·.asked)).length by rw[I,ha];rfl);go_wp2;exact⟨⟨j+1,af,bD,by rw[C.aa],kr.al _⟩,IQ⟩
    ·have C:=ae (show ((B.aA.take (j+1)).filter (·.asked)).length=((B.aA.take j).filter (·.asked)).length+1 by rw[I,ha];rfl);go_wp2;exact⟨⟨j+1,af,bD,by rw[C.aa];go_num,kr.al _⟩,IQ⟩
   ·have aO:¬(j:Int)<B.aA.length:=af;obtain rfl:j=B.aA.length:=af;rw[nc]at *;have C4:=ae (ayK (HL.aa wr (Q.aa.tr kr)));have I4:(B.aA.filter (·.asked)).length<=1000000:=bo (lQ _ _) im;have HKr:=ae (Q.aa.tr kr);go_wp2_with fail
    refine C4.aa.mono ?_;rintro e w9⟨A9,c9,rfl,k9⟩;have k99:=HKr.aa.tr k9;go_wp2;go_ret;refine⟨?_,k99⟩;rw[HR.aa];exact congrArg (λz:Int=>Ending.returned (Value.int .i64 z)) af
end
theorem ayL{X Z g gd B W}(h:dt X Z g gd B W)(y:kO B)(D:B.told.length<=800000) :
 Calls prog 46 #[.pointer (some ⟨g,0,none⟩)] W λe w'=>∃v',e=.returned v'/\dt X Z g gd (gA B) w'/\ag (λk=>¬Z k) W w'/\Fx X (λW=>aq Bc (ua (gA B)) v' W) w':=by
 obtain⟨j,p,hb,hg,hz⟩:=h
 obtain rfl:=kg hg
 refine (aqI hb j.tobC y D).mono ?_
 rintro e w'⟨v',p',rfl,t,A,C,E,u⟩
 have h6:=dt.n hz hg j.work ⟨p',t,A,C,E⟩
 exact⟨v',rfl,h6.1,h6.2,u.less λ_ h=>.inl (.inl h)⟩
theorem auk{B}(j:bC B):(ua B).length<=17:=by
 have:=adY B
 have:=U2 B (pD B)
 have:=Il B.par B.me
 have:=(rU j.tr).2
 unfold ua
 grind [ua,pD]
section
variable {S:Nat->Prop} {W W2:World} {H:lN} {own:Nat->Nat} {O:bz} {par ai:List Int} {k:Nat}
theorem bn.take(h:bn H own O W cK) a b:∃t,H.vn=.pointer (some ⟨t,0,none⟩)/\Calls prog 56 #[.pointer (some ⟨t,0,none⟩),.int .i64 a,.int .i64 b] W λe w'=>∃v j,e=.returned (.tuple #[v,.int .i64 j]) /\
 ((j != 0)=true/\mV O a b=(O,j)/\cQ H own O W w'∨∃m l,j=0/\lM O.cD (a,b)=some (m :: l)/\m.length<=1000000000/\sl m v w'/\bn H own { O with cD:=iE O.cD (a,b) l } w' cK/\ag (λk=>own k=3) W w'):=by
 obtain⟨t,hv,A⟩:=h.cD (show cK 3 by grind [cK])
 refine⟨t,hv,(acH A).mono ?_⟩
 rintro e w'⟨v,j,rfl,u,⟨y,rfl,h2⟩|⟨y,rfl,h2⟩|⟨m,l,y,rfl,h2,B,C⟩⟩
 ·exact aji
 ·exact aji
 ·exact⟨v,_,rfl,.inr ⟨m,l,rfl,y,B,C.now,h.I8 hv h2 u,u⟩⟩
theorem abB(h:bn H own O W cK)(hI:bM par ai O k)(hk:k<=40000) a b :
 Calls prog 18 #[.pointer (some ⟨H.gw,0,none⟩),.int .i64 a,.int .i64 b] W λe w'=>e=.returned (.int .i64 (mV O a b).2)/\cQ H own (mV O a b).1 W w':=by
 obtain⟨gn,Z,hC⟩:=h.take a b
 have C1:=ae hC
 have q:=(h.fc p2).blk.cell
 rw[Z]at q
 have D:=ae hI
 have HR:Hid (mV O a b=mV O a b):=ae rfl
 generalize hr:mV O a b=R at HR⊢
 have S:=ae hr
 go_in
 go_wp2_with fail
 refine C1.aa.mono ?_
 rintro e y⟨v,code,rfl,⟨hne,j,G⟩|⟨m,l,rfl,Q,U,N,t,u1⟩⟩
 ·have u:=ae (And.intro j G);go_wp2;go_ret;obtain⟨j,G⟩:=u.aa;rw[<- S.aa,j];exact⟨rfl,G⟩
 ·have F:bM par ai { O with cD:=iE O.cD (a,b) l } k:=by have V:=D.aa.few _ (yC Q);simp only[eQ]at V;exact D.aa.cD (K8 _ _ _) (La D.aa.few af)
  have j:mV O a b=(match cZ { O with cD:=iE O.cD (a,b) l } b with|none=>({ O with cD:=iE O.cD (a,b) l },210)|some B=>(rF { O with cD:=iE O.cD (a,b) l } b (gX B a m).1,(gX B a m).2)):=by unfold mV;rw[Q];rfl
  rw[S.aa]at j;have L:=ae (show ag (λk=>2<=own k) W y from u1.more λk e=>af);generalize { O with cD:=iE O.cD (a,b) l }=P at *;have q:=(t.fc p2).blk.cell;have C:=(t.q p2 y (K.rf y) b).1;obtain⟨A,c,rfl,-⟩:=id N;cases hu:cZ P b with
  | none => rw[t.down p2 pB F.fZ.ln hu]at C;simp only[Option.getD_none,Option.isSome_none]at C;rw[hu]at j;have u:=ae (And.intro j (cQ.tr L.aa rfl (λ_ _=>rfl) (t.now (K.rf y))));go_wp2;go_ret;rw[u.aa.1];exact⟨rfl,u.aa.2⟩
  | some B =>
   obtain⟨n,rfl,hlt,x,hx1,hx2⟩:=Ck hu;obtain⟨gd,g,e1,M,hL⟩:=t.up (pB n) F.fZ.ln hu;obtain⟨hG,T,-⟩:=F.up hu;have:=T.told;have Y:=ae (axE hL T.fit af a m _ N U);rw[M]at C;simp only[Option.getD_some,Option.isSome_some]at C;rw[hu]at j;simp only at j;have X:=ae λE (I:dt _ _ g gd (gX B a m).1 E) J=>cQ.tr L.aa rfl (λ_ _=>rfl) (t.ak3 aB e1 M I J)
   have HD:=ae j;generalize gX B a m=hb at *;go_wp2_with fail
   apply aI Y.aa;rintro E⟨I,J⟩;have u:=ae (X.aa E I J);go_wp2;go_ret;rw[HD.aa];exact⟨rfl,u.aa⟩
def Er(O:bz)(n:Int)(l:List (Int×List UInt8)):bz:={ O with cD:=l.foldl (λL m=>ud L (n,m.1) m.2) O.cD }
theorem asr O n l x:Er O n (l++[x])={ Er O n l with cD:=ud (Er O n l).cD (n,x.1) x.2 }:=by
 grind [Er]
theorem ab8(h:bn H own O W cK)(F:bM par ai O k)(hk:k<=40000) n :
 Calls prog 12 #[.pointer (some ⟨H.gw,0,none⟩),.int .i64 n] W λe w'=>e=.returned (.int .i64 (oJ O n).2)/\cQ H own (oJ O n).1 W w':=by
 have C1:=ae (KU h p2 n)
 have HR:Hid (oJ O n=if ko O n then (match cZ O n with|none=>(O,(210:Int))|some B=>(Er (rF O n (gA B)) n (ua (gA B)),0))else (O,1)):=ae rfl
 have HN:=ae (h.now (K.rf W))
 generalize oJ O n=R at *
 cases E:ko O n
 ·rw[E]at C1 HR;have q:=(h.fc p2).blk.cell;exact QN
 rw[E]at C1 HR
 have q:=(h.fc p2).blk.cell
 have D:=(h.q p2 W (K.rf W) n).1
 cases hu:cZ O n with
 | none => rw[h.down p2 pB F.fZ.ln hu]at D;simp only[Option.getD_none,Option.isSome_none]at D;rw[hu]at HR;exact QN
 | some B =>
  obtain⟨i,rfl,hlt,x,hx1,hx2⟩:=Ck hu;obtain⟨gd,g,e1,Z,hL⟩:=h.up (pB i) F.fZ.ln hu;obtain⟨U,Y,-⟩:=F.up hu;have im:=Y.told;have C3:=ae (ayL hL Y.fit af);have EJ:=auk (KR U.tobC);have HS:=ae (aqL (KR U.tobC) (Pt U.tobC Y.fit));rw[Z]at D;simp only[Option.getD_some,Option.isSome_some]at D;rw[hu]at HR;have HP:=ae λw2 (tk:dt _ _ g gd (gA B) w2) u2=>h.put (by have:=F.fZ.ln;omega) e1 Z tk u2
  have wj:=ae h.lo;simp only[if_true]at HR;generalize fI:rF O (i:Int) (gA B)=O1 at *;generalize ua (gA B)=outs at *;generalize gA B=WB at *;go_in;go_wp2_with fail
  apply aI C1.aa;rintro w' rfl;go_wp2_with fail
  refine C3.aa.mono ?_;rintro e t⟨v',rfl,hL1,C,hF⟩;have J:=HP.aa t hL1 C;obtain⟨Ao,co,rfl⟩:=av hF.now;have HX:=ae (show ag (λk=>2<=own k) w' t from ⟨C.os,C.tape,C.output,C.size,λk J h2=>C.block k J λhx=>h2 af⟩);have N:=ae (show (∀k,k<w'.heap.size->jb own (2*i+4) w' t k=own k)/\∀k,jb own (2*i+4) w' t k=3->own k=3 from ⟨λk hk=>FY,λk hk=>by
   unfold jb at hk;split at hk
   ·split at hk <;> omega
   ·exact hk⟩)
  have HF:=ae hF;have HH1:=ae J;have u10:=ag.rf (λk=>jb own (2*i+4) w' t k=3) t;have aAR:=ae u10;generalize jb own (2*i+4) w' t=I at *;go_wp2_with fail
  go_loopw [27] (fun Q Wj=>∃j:Nat,j<=outs.length/\Q=.int .i64 j/\Hid (bn H I (Er O1 i (outs.take j)) Wj cK)/\Hid (ag (fun k=>I k=3) t Wj)) (fun Q _=>outs.length-(intOf Q).toNat)
  case atStart=>exact⟨0,af,rfl,by simpa [Er]using HH1,aAR⟩
  case round =>
   obtain⟨j,hj,rfl,HJ,L⟩:=hrel;by_cases hlt':j<outs.length
   ·have aO:(j:Int)<outs.length:=af;have y:=HJ.aa;obtain⟨gn,hv,Ks⟩:=y.cD (show cK 3 by unfold cK;decide);have mL:=(HF.aa.up L.aa λk e=>by have:=N.aa.2 k e;constructor <;> omega).now;obtain⟨A9,c9,e9,aAS,-⟩:=mL;injection e9 with e9a e9b e9c;subst e9a e9c;obtain⟨b1,off,cs0,gu,-,hrl,d0,d⟩:=ed aAS j hlt' ax;subst gu;have je:=HS.aa _ (bT hlt');have Jm:outs.take (j+1)=outs.take j++[outs[j]]:=aj;generalize outs[j]=x at *;obtain⟨G,bs⟩:=x;obtain⟨u,hcs,kP⟩:=hrl wr (K.rf wr);subst hcs;obtain⟨T,M,rfl⟩:∃A c,u=.slice A bs.length c:=kP.imp λ_ h=>h.imp λ_ h=>h.1
    have HK:=ae Jm;have HV:=ae hv;have q:=(y.fc p2).blk.cells;rw[hv]at q;have eX:=ah.new wr 96 #[.int .i64 G,.slice T bs.length M];have kA:=eX.aS;have kB:=λW (k:K (wr.alloc (.cells #[.int .i64 G,.slice T bs.length M] 96)) W)=>kA.tr k
    have qb:=eX.cells;have q2:=λW k=>q W (kB W k)
    have EP:=ae (And.intro y kP);have d:∀i,i<2->wr.cell? ⟨b1,off+j*2+i,none⟩=#[.int .i64 G,.slice T bs.length M][i]?:=λi E=>(d wr (K.rf wr) i E).trans Array.getElem?_toList
    have d0:wr.cell? ⟨b1,off+j*2,none⟩=some (.int .i64 G):=d0 wr (K.rf wr);have KA:=ae kA;go_wp2_with fail
    generalize wr.alloc _=w2 at *;have qs:=And.intro q2 qb;refine dK 9 ?_;iterate 9 refine ar.i ?_
    intro V W3 kW hA;simp only[aN,aQ,b6,aJ,Nat.reduceAdd]at hA;refine aH.call _ _ rfl (by simp[aF,List.lookup,ba,hA,execOp,aG,go_sem];exact⟨rfl,rfl⟩) ?_;have X:=KA.aa.tr kW;have S:=EP.aa.1.st X;obtain⟨gn',hv',zS⟩:=S.cD (show cK 3 by unfold cK;decide);have eg:gn'=gn:=by have:=hv'.symm.trans HV.aa;injection this with this;injection this with this;injection this
    subst eg;refine (aqP zS S.lo bs _ (nP _ _ _ _ EP.aa.2 X) je).mono ?_;rintro e w4⟨code,rfl,u4,Fa⟩;refine⟨_,rfl,aH.h ?_⟩;have h4:bn H I (Er O1 i (outs.take (j+1))) w4 cK:=by rw[HK.aa,asr];exact S.I8 hv' Fa u4
    have H4:=ae h4;have HU4:=ae ((L.aa.tr (ag.aU X _)).tr u4);go_wp2;go_roundw
    case rel=>exact⟨j+1,af,bD,H4,HU4⟩
    case measure=>simp[intOf];omega
   ·have aO:¬(j:Int)<outs.length:=af;obtain rfl:j=outs.length:=af;go_wp2;go_ret;have y:=HJ.aa;rw[nc]at y;refine⟨fJ,?_⟩;rw[HR.aa];exact⟨H,I,y,rfl,HX.aa.gq L.aa λk hk e=>by have:=N.aa.2 k e;omega,N.aa.1⟩
end
section
open Go Go.RowKit Go.Shelf
theorem anU{α:Type}{F:Fence}{n:Nat}{P:Program}{g:Operand}{A:Array Tmp}{assign body:Code}{Q:Exit->Act->World->Prop}{a:Act}{w:World}(hro:F.round=none)(U:1<=n){gf:Nat}{lb:Array Value}
 (hg:a.eval g=.func (.func gf) #[] lb) (hFg:F.fn gf) (eg:∀args w,(callFunc gf args).run P w=.ok (.enter gf args) w) {encs:α->Array Value} (X:∀x,(encs x).size=A.size) (xs:List α) (I:List α->World->Prop)
 (E:∀pre W o,I pre W->w.heap.size+1<W.heap.size->I pre (W.putObj (w.heap.size+1) o)) (V:∀o,I [] ((w.alloc (.deferred (some []))).alloc o))
 (aAT:∀(l:Nat) (J:List α->World->Prop) (W:World),(∀pre W,J pre W->I pre W)->(∀pre x W,J pre W->pre++[x] <+: xs->YieldAt F (n-1-1) P l (encs x) W λe W'=>e=.returned (.bool true)/\J (pre++[x]) W')->J [] W ->
  CallsIn F (n-1) P gf (#[.func (.yield l) #[] #[]]++lb) W λe W'=>(∃v,e=.returned v)/\J xs W')
 (L:α->Act) (axH:∀(l:Nat) (x:α) (W:World) (K:Act->World->Prop),K (L x) W->assign.wpIn (F.inRound l) (n-1-1) P (Exit.then K (λ_ _ _=>False)) { tmps:=(A.zip (encs x)).foldl (λt (p,v)=>t.setIfInBounds p v) a.tmps,defers:=[] } W)
 (azp:∀(l:Nat) (pre:List α) (x:α) (W:World),I pre W->pre++[x] <+: xs->w.heap.size+1<W.heap.size->body.wpIn (F.inRound l) (n-1-1) P (λe _ W'=>e=.normal/\(∀k,k=w.heap.size∨k=w.heap.size+1->W'.heap[k]?=W.heap[k]?)/\I (pre++[x]) W') (L x) W)
 (azq:∀W,I xs W->W.heap[w.heap.size]?=some (.deferred (some []))->Q .normal { a with defers:={ target:=.collected w.heap.size,args:=#[] } :: a.defers } W):(Code.rangeFunc g A assign body).wpIn F n P Q a w:=by
 refine wpIn_rangeFunc ?_
 intro G hfn
 rw[hro]
 obtain⟨u,j⟩:∃u:LoopState->Loop,u=λst=>{ state:=st,pending:=none,fn:=G,tmps:=a.tmps,params:=A,assign:=assign,body:=body,defers:=w.heap.size }:=⟨_,rfl⟩
 have O:=V (.loop (u .ready))
 obtain⟨W1,B⟩:∃W1,(w.alloc (.deferred (some []))).alloc (.loop (u .ready))=W1:=⟨_,rfl⟩
 rw[B]at O
 have hL1:W1.heap[w.heap.size+1]?=some (.loop (u .ready)):=by rw[<- B];have:=World.alloc_heap_new (w.alloc (.deferred (some []))) (.loop (u .ready));rwa [World.size_alloc]at this
 have Y:W1.heap[w.heap.size]?=some (.deferred (some [])):=by rw[<- B];exact (Below.heap_alloc _ _ _ aj).trans (World.alloc_heap_new w _)
 refine⟨w.heap.size+1,[{ target:=.collected w.heap.size,args:=#[] }],W1,{ target:=.fn (.func gf) lb,args:=#[.func (.yield (w.heap.size+1)) #[] #[]] },W1,gf,#[.func (.yield (w.heap.size+1)) #[] #[]]++lb,W1,?_,?_,?_,?_,λ_=>U,?_⟩
 ·rw[<- B,j];exact run_enterLoop_outer _ _ _ _ _
 ·simp only[resolve,hg];simp[go_sem]
 ·intro f' T;simp[Target.leads]at T;subst T;exact hFg
 ·simp[invoke,go_sem,eg]
 refine (aAT (w.heap.size+1) (λpre W=>I pre W/\W.heap[w.heap.size+1]?=some (.loop (u .ready))/\W.heap[w.heap.size]?=some (.deferred (some []))) W1 (λ_ _ h=>h.1) ?_ ⟨O,hL1,Y⟩).mono ?_
 ·rintro pre x W⟨D,y,hk⟩ xw;have C:=(Array.getElem?_eq_some_iff.1 y).1;have M:=run_yield (P:=P) (args:=encs x) y (by rw[j];exact X x);rw[j]at M;refine⟨G,_,assign,body,M,roundIn_of_wpIn hfn (axH _ x W _ ⟨_,run_beginRound y (by rw[j]),?_⟩)⟩;refine wpIn_mono (azp _ pre x _ (E _ _ _ D C) xw (by simpa [World.putObj]using C)) ?_;rintro e a3 W3⟨rfl,R,Z⟩;have H:=(R _ (.inr rfl)).trans (World.putObj_heap_same (o:=.loop { u .ready with state:=.busy }) C);have jE:=(R _ (.inl rfl)).trans ((World.putObj_heap_other af).trans hk);have S:=(Array.getElem?_eq_some_iff.1 H).1;have N:=run_endRound (P:=P) none H;rw[j]at N;exact⟨_,_,N,rfl,E _ _ _ Z S,by rw[j];exact World.putObj_heap_same S,(World.putObj_heap_other af).trans jE⟩
 ·rintro e W2⟨⟨v,rfl⟩,D,y,hk⟩;exact⟨none,_,by have:=run_endLoop (P:=P) y (by rw[j];simp);rw[j]at this;exact this,azq _ (E _ _ _ D (Array.getElem?_eq_some_iff.1 y).1) ((World.putObj_heap_other af).trans hk)⟩
end
section
open Go Go.RowKit Go.Shelf
attribute [local go_sem] Oper.semAt_some
def p6(n:Nat):List Int:=((List.range n).reverse++List.range n).map λ(k:Nat)=>(k:Int)
theorem Pj n:(p6 n).length=n+n:=by simp[p6]
theorem aqW{n j}(h:j<n):(p6 n).take (n-j)=(p6 n).take (n-(j+1))++[(j:Int)]:=by
 have t:n-(j+1)<(p6 n).length:=by grind [Pj]
 rw[show n-j=n-(j+1)+1 by omega,gg t];congr 1;simp only[p6,List.getElem_map,List.getElem_append,List.length_reverse,List.length_range,show n-(j+1)<n by omega,dite_true,List.getElem_reverse,List.getElem_range,List.cons.injEq,and_true];omega
theorem aul{n j}(h:j<n):(p6 n).take (n+(j+1))=(p6 n).take (n+j)++[(j:Int)]:=by
 have t:n+j<(p6 n).length:=by grind [Pj]
 rw[show n+(j+1)=n+j+1 by omega,gg t];congr 1;simp[p6,List.getElem_append]
theorem ass l E gw n(hn:n<=1000)(J:List Int->World->Prop)
 (G:∀pre W,J pre W->W.cell? ⟨E,0,none⟩=some (.pointer (some ⟨gw,0,none⟩))/\∃A c,W.cell? ⟨gw,0,none⟩=some (.slice A n c))
 (F:∀pre x W,J pre W->pre++[x] <+: p6 n->YieldAt Fence.wide 4 prog l #[.int .i64 x] W λe W'=>e=.returned (.bool true)/\J (pre++[x]) W') W (h0:J [] W) :
 CallsIn Fence.wide 5 prog 130 #[.func (.yield l) #[] #[],.pointer (some ⟨E,0,none⟩)] W λe W'=>(∃v,e=.returned v)/\J (p6 n) W':=by
 obtain⟨B,A,c,C⟩:=G [] W h0
 have:IntKind.i64.wrap ((n:Int)-1)=(n:Int)-1:=LK
 refine callsIn_of_wp func130 rfl trivial ?_ rfl
 simp only[ntmps130,List.size_toArray,eQ,List.length_nil,Nat.reduceAdd,Nat.reduceSub,Array.replicate_succ,Array.replicate_zero,List.push_toArray,List.append_toArray,aN,aQ]
 gi_wp2
 gi_loopw [3] (λi wr=>∃j:Nat,i=.int .i64 ((j:Int)-1)/\j<=n/\J ((p6 n).take (n-j)) wr) (λi _=>(intOf i+1).toNat)
 case atStart=>exact⟨n,rfl,aD n,Lb⟩
 case round =>
  clear h0 B C
  obtain⟨j,rfl,M,t⟩:=hrel
  cases j with
  | zero =>
   generalize wr=T at *;obtain⟨B,U,c2,C⟩:=G _ _ t;gi_wp2;gi_loopw [4,24] (λ_ i L=>∃j:Nat,i=.int .i64 j/\j<=n/\J ((p6 n).take (n+j)) L) (λ_ i _=>n-(intOf i).toNat)
   case atStart=>exact⟨0,rfl,eE n,t⟩
   case round =>
    clear t B C;obtain⟨j,rfl,M,t⟩:=hrel;by_cases H:j<n
    ·have O:(j:Int)<n:=af;have HS:=ae (aul H);obtain⟨Q,N,assign,body,D,u⟩:=F _ (j:Int) _ t ajj;gi_wp2;refine u.mono ?_;rintro e I⟨rfl,y⟩;rw[<- HS.aa]at y;clear t u D;gi_wp2;refine⟨?_,IQ⟩;iterate 9 apply Exists.intro
     refine⟨⟨j+1,?_,af,y⟩,rfl⟩;go_num
    ·have O:¬(j:Int)<n:=af;obtain rfl:j=n:=af;rw[gI (by rw[Pj];omega)]at t;gi_wp2;go_end0;exact⟨⟨_,rfl⟩,t⟩
  | succ j => have HS:=ae (aqW (show j<n by omega));have:IntKind.i64.wrap ((j:Int)-1)=(j:Int)-1:=LK;rw[show ((j+1:Nat):Int)-1=(j:Int) by omega];obtain⟨Q,N,assign,body,D,u⟩:=F _ (j:Int) _ t ajj;gi_wp2;refine u.mono ?_;rintro e I⟨rfl,y⟩;rw[<- HS.aa]at y;clear t u D;gi_wp2;refine⟨?_,by simp[intOf]⟩;exact⟨j,rfl,af,y⟩
end
section
open Go Go.RowKit Go.Shelf
attribute [local go_sem] Oper.semAt_some
theorem aoW gw W :
 Calls prog 75 #[.pointer (some ⟨gw,0,none⟩)] W λe w'=>e=.returned (.func (.func 130) #[] #[.pointer (some ⟨W.heap.size,0,none⟩)])/\w'=W.alloc (.cells #[.pointer (some ⟨gw,0,none⟩)] 28):=by
 go_in
 go_wp2
 go_ret
 exact⟨rfl,rfl⟩
theorem axI{L k l l'}(h:lM L k=some l):lM (iE L k l') k=some l':=by
 unfold lM iE at *
 induction L with
 | nil=>simp at h
 | cons p L j =>
  grind
theorem apJ{O a b}(h:nT O a b≠0):nT (mV O a b).1 a b+1=nT O a b:=by
 unfold nT mV at *
 cases e:lM O.cD (a,b)with
 | none=>rw[e]at h;simp at h
 | some l=>cases l with
  | nil=>rw[e]at h;simp at h
  | cons m l =>
   have j:=axI (l':=l) e;simp only;split
   ·simp[j]
   ·show ((lM (iE O.cD (a,b) l) (a,b)).getD []).length+1=_;simp[j]
section
variable {W:World} {H:lN} {own:Nat->Nat} {O:bz} {par ai:List Int} {k:Nat}
def xB(O:bz)(pre:List Int):bz:=(pre.map Int.toNat).foldl vF O
theorem aum O pre x:xB O (pre++[x])=vF (xB O pre) x.toNat:=by simp[xB]
theorem awf O:xB O (p6 O.par.length)=sP O:=by unfold xB p6 sP;rw[List.map_map];congr 1;rw[show Int.toNat ∘ (λ(k:Nat)=>(k:Int))=id from rfl,List.map_id]
def Gy(H:lN)(own:Nat->Nat)(O:bz)(par ai:List Int)(k:Nat)(j:World)(pre:List Int)(W:World):Prop:=∃u t,bn u t (xB O pre) W cK/\u.gw=H.gw/\ag (λk=>2<=own k∨k=j.heap.size∨k=j.heap.size+1) j W/\(∀k,k<j.heap.size->t k=own k)/\t j.heap.size=1/\t (j.heap.size+1)=1/\bM par ai (xB O pre) (k+49*pre.length)
theorem axJ O n(h:(oJ O n).2≠0):(oJ O n).1=O:=by
 grind [oJ,ko,cZ]
theorem Gy.next{j W1 B C t A pre}(F:C.gw=H.gw)(u:ag (λk=>2<=own k∨k=j.heap.size∨k=j.heap.size+1) j W1)(E:∀k,k<j.heap.size->t k=own k)(J:t j.heap.size=1)(h6:t (j.heap.size+1)=1)(R:j.heap.size+1<W1.heap.size)
 (L:cQ C t A W1 B) (e:xB O pre=A) (M:bM par ai A (k+49*pre.length)):(∀k,k=j.heap.size∨k=j.heap.size+1->B.heap[k]?=W1.heap[k]?)/\Gy H own O par ai k j pre B:=by
 subst e
 obtain⟨I,N,Q,G,D,y⟩:=L
 refine⟨λk hk=>D.block k af aB,I,N,Q,G.trans F,u.gq D λk hk e=>.inl (E k hk▸e),λk hk=>(y k af).trans (E k hk),(y _ af).trans J,(y _ af).trans h6,M⟩
def pM(T:bz)(j i:Nat):bz:=(List.range i).foldl (λO (t:Nat)=>if t=j then O else Cj j t (nT O j t) O) T
theorem aun T j i:pM T j (i+1)=if i=j then pM T j i else Cj j i (nT (pM T j i) j i) (pM T j i):=by simp[pM,List.range_succ]
theorem awg{p:Nat->Prop} m(h:p m):∃m,p m/\∀m',p m'->m<=m':=by
 induction m using Nat.strongRecOn with
 | _ m j =>
  grind
noncomputable def LZ (p:Nat->Prop):Nat:=Classical.epsilon λm=>p m/\∀m',p m'->m<=m'
theorem ad7{p m}(h:p m):p (LZ p)/\LZ p<=m:=by have:=Classical.epsilon_spec (awg m h);exact⟨this.1,this.2 m h⟩
structure Gz(H':lN)(bL:Nat->Nat)(W1:World)(par ai:List Int)(T:bz)(j i kk:Nat)(O':bz)(W:World):Prop where
 ov:cQ H' bL O' W1 W
 inv:∃m,bM par ai O' m/\m+nT O' j i<=kk+8*i+8
 end_:if i=j then O'=pM T j i else Cj j i (nT O' j i) O'=pM T j (i+1)
theorem aoX(h:bn H own O W cK)(hI:bM par ai O k)(hp:par.length<=6)(hk:k+588<=40000) :
 Calls prog 31 #[.pointer (some ⟨H.gw,0,none⟩)] W λe w'=>e=.returned (.tuple #[])/\cQ H own (sP O) W w':=by
 refine (callsIn_wide (n:=6)).1 ?_
 refine callsIn_of_wp_marks func31 rfl trivial ?_ rfl
 simp only[ntmps31,List.size_toArray,eQ,List.length_nil,Nat.reduceAdd,Nat.reduceSub,Array.replicate_succ,Array.replicate_zero,List.push_toArray,List.append_toArray,aN,aQ]
 have aR:=(ah.new W 28 #[.pointer (some ⟨H.gw,0,none⟩)])
 have q1:=aR.cell
 gi_wp2_with fail
 refine⟨trivial,(callsIn_wide.2 (aoW _ _)).mono ?_⟩
 rintro e D⟨rfl,rfl⟩
 gi_wp2_with fail
 have k2:=K.kK W (.cells #[.pointer (some ⟨H.gw,0,none⟩)] 28) (.cells #[.pointer (some ⟨H.gw,0,none⟩)] 28)
 have hx1:=aR.alloc (.cells #[.pointer (some ⟨H.gw,0,none⟩)] 28)
 have hx2:=ah.new (W.alloc (.cells #[.pointer (some ⟨H.gw,0,none⟩)] 28)) 28 #[.pointer (some ⟨H.gw,0,none⟩)]
 simp only[World.size_alloc]at hx2⊢
 have h2:=h.st k2
 have hlo:∀k,W.heap.size<=k->own k=0:=λk hk=>by have:=h.lo k;omega
 have hz2:((W.alloc (.cells #[.pointer (some ⟨H.gw,0,none⟩)] 28)).alloc (.cells #[.pointer (some ⟨H.gw,0,none⟩)] 28)).heap.size=W.heap.size+2:=aj
 generalize (W.alloc (.cells #[.pointer (some ⟨H.gw,0,none⟩)] 28)).alloc (.cells #[.pointer (some ⟨H.gw,0,none⟩)] 28)=D at *
 have V:=hI.uo
 have He:=ae λpre W' (h:Gy H own O par ai k D pre W')=>by obtain⟨B,y,h1,C,u,-⟩:=h;exact hx1.aX u λe=>by have:=hlo W.heap.size (aD _);omega
 have wF:=ae λpre W' (h:Gy H own O par ai k D pre W')=>by obtain⟨B,y,h1,C,u,-⟩:=h;exact hx2.aX u λe=>by have:=hlo (W.heap.size+1) (by omega);omega
 have HPR:=ae λpre W' (h:Gy H own O par ai k D pre W')=>by obtain⟨B,y,h1,C,u,_,_,_,F⟩:=h;obtain⟨A,c,e,-⟩:=h1.fx.now.1;have q:=(h1.fc p2).blk.cell 0;rw[C,e,F.uo,<- V]at q;exact (show ∃A c,W'.cell? ⟨H.gw,0,none⟩=some (.slice A O.par.length c)from ⟨A,c,q⟩)
 clear q1 aR
 refine anU rfl af (gf:=130) (lb:=#[.pointer (some ⟨W.heap.size+1,0,none⟩)]) rfl trivial (enters_of func130 fo rfl) (encs:=λx:Int=>#[.int .i64 x]) (λ_=>rfl) (p6 O.par.length) (Gy H own O par ai k D) ?put ?start
  (λl J W' hJI hY hJ=>ass l (W.heap.size+1) H.gw O.par.length (by rw[V];omega) J (λpre W' h=>⟨(wF.aa pre W' (hJI pre W' h)).cell 0,HPR.aa pre W' (hJI pre W' h)⟩) hY W' hJ)
  (λx=>{ tmps:=#[.pointer (some ⟨H.gw,0,none⟩),.pointer (some ⟨W.heap.size,0,none⟩),.int .i64 x,undef,.pointer (some ⟨H.gw,0,none⟩),.bool false,.pointer (some ⟨H.gw,0,none⟩),.func (.func 130) #[] #[.pointer (some ⟨W.heap.size+1,0,none⟩)],.int .i64 x,undef,undef,undef,undef,undef,undef,undef,undef,undef,undef,undef,undef,undef,undef,undef,undef,undef,undef,undef,undef,undef,undef,undef,undef,undef,undef,undef,undef,undef,undef],defers:=[] }) ?assign ?body ?done
 case put =>
  rintro pre W' o⟨B,y,h1,C,u,U,h5,h6,F⟩ hlt;have u9:ag (λk=>k=D.heap.size+1) W' (W'.putObj (D.heap.size+1) o):=ag.eP (grownBy_putObj' W' _ o) λg e=>XC
  exact⟨B,y,h1.to u9 (λk e=>by subst e;rw[h6];exact⟨by decide,by unfold cK;decide⟩) (λ_ h=>h) (λ_ _=>rfl) (λk hk e=>XA),C,u.tr (u9.more λk e=>.inr (.inr e)),U,h5,h6,F⟩
 case start => intro o;have k3:=K.kK D (.deferred (some [])) o;have hz:((D.alloc (.deferred (some []))).alloc o).heap.size=D.heap.size+2:=aj;exact⟨H,_,h2.E5 k3,rfl,ag.aU k3 _,λk hk=>FY,by unfold jb;rw[if_pos (aD _),if_pos (by omega)],by unfold jb;rw[if_pos (by omega),if_pos (by omega)],hI⟩
 case assign => intro l x W' K hK;gi_wp2;exact hK
 case body =>
  intro l pre x W1 hR xw hlt;dsimp only;obtain⟨j,rfl,hjn⟩:∃j:Nat,x=(j:Int)/\j<O.par.length:=by have:=xw.subset (show x∈pre++[x] by simp);unfold p6 at this;obtain⟨j,h1,rfl⟩:=List.mem_map.1 this;exact⟨j,rfl,B8⟩
  have hpl:pre.length+1<=12:=by have:=xw.length_le;rw[Pj,V]at this;simp at this;omega
  have YW:=He.aa pre W1 hR;have q:=YW.cell;obtain⟨B,y,h1,C,u,U,h5,h6,F⟩:=hR;have I:xB O (pre++[(j:Int)])=vF (xB O pre) j:=aum O pre j;have hI9:=bM.turn F hp af j;have pn:=ae λP' W3 (N:cQ B y P' W1 W3) (e:vF (xB O pre) j=P')=>Gy.next (ai:=ai) (par:=par) (k:=k) C u U h5 h6 hlt N (I.trans e) axK
  generalize xB O pre=P at *;have C1:=ae (ab8 h1 F af j);rw[C]at C1;have hIT:=F.tick j;have HTN:=ae (axJ P j);have TJ:Hid (vF P j=if (oJ P j).2=0 then pM (oJ P j).1 j O.par.length else P):=ae (by unfold vF pM;rw[F.uo,V]);gi_wp2_with fail
  refine⟨trivial,((callsIn_wide.2 C1.aa).inRound l).mono ?_⟩;rintro e W3⟨rfl,N⟩;generalize oJ P j=T at *;obtain⟨T,code⟩:=T;by_cases hc:code=0
  ·subst hc;have HT:Hid (vF P j=pM T j O.par.length):=ae (by rw[TJ.aa];exact if_pos rfl);have HN0:=ae (show cQ B y T W1 W3 from N);have HI0:=ae (show bM par ai T (k+49*pre.length+1)from hIT);have HQ:=ae λt S m (N:cQ B y t W1 S) (hI:bM par ai t m)=>show (∀i,S.cell? ⟨W.heap.size,i,none⟩=#[Value.pointer (some ⟨H.gw,0,none⟩)][i]?)/\(∃A c,S.cell? ⟨H.gw,0,none⟩=some (.slice A O.par.length c))/\∃X Q gn,bn X Q t S cK/\X.gw=H.gw/\ag (λk=>2<=y k) W1 S/\(∀k,k<W1.heap.size->Q k=y k)/\S.cell? ⟨H.gw,2,none⟩=some (.pointer (some ⟨gn,0,none⟩))/\mU (λk=>Q k≠0) (λk=>Q k=3) gn t.cD S from by obtain⟨X,Q,G,Z,Y,g4⟩:=N;obtain⟨A,c,e,-⟩:=G.fx.now.1;obtain⟨gn,hv,Ks⟩:=G.cD (show cK 3 by unfold cK;decide);have q0:=(G.fc p2).blk.cell 0;have q2:=(G.fc p2).blk.cell 2;rw[Z,C,e,hI.uo,<- V]at q0;rw[Z,C,hv]at q2;exact⟨(YW.aX Y λe=>by have:=hlo W.heap.size (aD _);have:=U W.heap.size (by omega);omega).cell,⟨A,c,q0⟩,X,Q,gn,G,Z.trans C,Y,g4,q2,Ks⟩
   obtain⟨q3,⟨A3,c3,qp3⟩,-⟩:=HQ.aa _ _ _ HN0.aa HI0.aa;generalize hkk:k+49*pre.length+1=E at *;have HKK:Hid (E<=39952):=ae af;have HH3:=ae C;have HPL:Hid (O.par.length<=6):=ae (by rw[V];exact hp);clear N HTN TJ C1 hIT q h1 F u I hI9 h2 hx1 hx2 hI h V hkk YW xw hpl hlt C U h5 h6;gi_wp2_with fail
   gi_loopw [3,18] (λ_ iv Wi=>∃i:Nat,i<=O.par.length/\iv=.int .i64 i/\Hid (cQ B y (pM T j i) W1 Wi)/\Hid (bM par ai (pM T j i) (E+8*i))) (λ_ iv _=>O.par.length-(intOf iv).toNat)
   case atStart=>exact⟨0,eE _,rfl,HN0,HI0⟩
   case round =>
    clear HN0 HI0 q3 qp3;obtain⟨i,hi,rfl,EX,HI1⟩:=hrel;generalize wr=w5 at *;by_cases hlt:i<O.par.length
    ·have zo:(i:Int)<O.par.length:=af;gi_wp2_with fail
     have NL:=ae (aun T j i);gi_loopw [] (λWi=>∃t,Hid (Gz B y W1 par ai T j i E t Wi)) (λWi=>LZ λm=>∃t,Gz B y W1 par ai T j i E t Wi/\nT t j i=m)
     case atStart =>
      refine⟨pM T j i,ae ⟨EX.aa,⟨_,HI1.aa,by have:=HI1.aa.long j i;omega⟩,?_⟩⟩;split
      ·rfl
      ·next h9=>rw[NL.aa,if_neg h9]
     case round =>
      clear EX HI1;obtain⟨O0,lJ⟩:=hrel;obtain⟨t,M,hm⟩:=(ad7 (p:=λm=>∃t,Gz B y W1 par ai T j i E t wr/\nT t j i=m) ⟨O0,lJ.aa,rfl⟩).1;have HO:=ae M;have HM:=ae hm;obtain⟨m,Ox,hmm⟩:=M.inv;obtain⟨q3,⟨A4,c4,qp4⟩,X,Q,gn,G,Z,Y,g4,qn,Ks⟩:=HQ.aa _ _ _ M.ov Ox;have hb:=HPL.aa;by_cases hij:i=j
      ·subst hij;have R:=M.end_;rw[if_pos rfl]at R;have HF:=ae (show cQ B y (pM T i (i+1)) W1 wr by rw[NL.aa,if_pos rfl,<- R];exact M.ov);have HI2:=ae (show bM par ai (pM T i (i+1)) (E+8*(i+1)) by rw[NL.aa,if_pos rfl,<- R];exact Ox.mono af);clear M hm Ox hmm G Y Ks R;gi_wp2;refine⟨trivial,?_⟩;gi_wp2;exact⟨⟨i+1,hjn,bD,HF,HI2⟩,IQ⟩
      ·have aFZ:((i:Int) != (j:Int))=true:=aY;have C4:=ae (aqQ (a:=(j:Int)) (b:=(i:Int)) Ks);have R:=M.end_;rw[if_neg hij]at R;have HHE:=ae R;have Tp:Hid (((lM t.cD ((j:Int),(i:Int))).getD []).length=nT t j i):=ae rfl;have C5:=ae (abB G Ox ajk (j:Int) (i:Int));rw[Z]at C5;rw[Tp.aa]at C4;obtain⟨L,hL⟩:∃L,L=nT t j i:=⟨_,rfl⟩;rw[<- hL]at C4;have HL:=ae hL;have qJ:=(G.fc p2).blk;have HTR:=ae λO9 W9 (h9:cQ X Q O9 wr W9)=>show cQ B y O9 W1 W9 from cQ.tr Y (Z.trans HH3.aa.symm) g4 h9
       clear hm Ox hmm G Y g4 Ks R hL M;gi_wp2_with fail
       refine⟨trivial,((callsIn_wide.2 C4.aa).inRound l).mono ?_⟩;rintro e w'⟨rfl,rfl⟩;cases L with
       | zero => have I:=HHE.aa;rw[<- HL.aa]at I;have HF:=ae (show cQ B y (pM T j (i+1)) W1 w' from (show t=pM T j (i+1)from I)▸HO.aa.ov);have HI2:=ae (show bM par ai (pM T j (i+1)) (E+8*(i+1))from (show t=pM T j (i+1)from I)▸HO.aa.inv.elim λm h=>h.1.mono af);clear I;gi_wp2;exact⟨⟨i+1,af,bD,HF,HI2⟩,IQ⟩
       | succ L =>
        have hpos:(0:Int)<((L+1:Nat):Int):=af;gi_wp2_with fail
        refine⟨trivial,((callsIn_wide.2 C5.aa).inRound l).mono ?_⟩;rintro e w6⟨rfl,hN6⟩;have Td:=apJ (O:=t) (a:=(j:Int)) (b:=(i:Int)) (by rw[<- HL.aa];omega);have ak9:nT (mV t (j:Int) (i:Int)).1 j i=L:=by have:=HL.aa;omega
        have hR6:Gz B y W1 par ai T j i E (mV t (j:Int) (i:Int)).1 w6:=by obtain⟨m,mH,hm2⟩:=HO.aa.inv;refine⟨HTR.aa _ _ hN6,⟨m+1,mH.D6 ajk j i,af⟩,?_⟩;have I:=HHE.aa;rw[<- HL.aa]at I;rw[if_neg hij,ak9];exact I
        have HR6:=ae hR6;have Kj:Hid ((LZ λm=>∃t,Gz B y W1 par ai T j i E t w6/\nT t j i=m)<LZ λm=>∃t,Gz B y W1 par ai T j i E t w'/\nT t j i=m):=ae (by
         rw[<- HM.aa];have:=(ad7 (p:=λm=>∃t,Gz B y W1 par ai T j i E t w6/\nT t (j:Int) (i:Int)=m) ⟨_,hR6,rfl⟩).2;omega)
        clear hN6 Td ak9 hR6 C4 C5 HTR qJ;gi_wp2;exact⟨⟨_,HR6⟩,Kj.aa⟩
    ·have zo:¬(i:Int)<O.par.length:=af;obtain rfl:i=O.par.length:=af;have HF:=ae (pn.aa _ _ EX.aa HT.aa);exact ajl
  ·have hne:(code != 0)=true:=DX;have HF:=ae (pn.aa T W3 N (by rw[TJ.aa,if_neg hc];exact (HTN.aa hc).symm));clear N pn HTN TJ C1;exact ajl
 case done =>
  rintro W'⟨B,y,h1,C,u,U,h5,h6,F⟩ hK;rw[awf]at h1;have u9:ag (λk=>k=D.heap.size) W' (W'.putObj D.heap.size (.deferred none)):=ag.eP (grownBy_putObj' W' _ _) λg e=>XC
  have HF:=ae (show cQ H own (sP O) W (W'.putObj D.heap.size (.deferred none))from
   ⟨B,y,h1.to u9 (λk e=>by subst e;rw[h5];exact⟨by decide,by unfold cK;decide⟩) (λ_ h=>h) (λ_ _=>rfl) (λk hk e=>XA),C,
    ((ag.aU k2 _).gq u λk hk e=>af).gq u9 λk hk e=>af,λk hk=>U k af⟩)
  gi_wp2;refine⟨aj,.inl ⟨_,_,rfl,run_takeDeferred hK,?_⟩⟩;exact⟨_,results_none rfl _ _ _,rfl,HF.aa⟩
end
end
section
variable {W W2:World} {H:lN} {own:Nat->Nat} {O:bz}
theorem bn.aAU{α fb}{args:Value->Array Value}{ret:α×Int->Value}(h:bn H own O W cK)(D:oQ O) c a z f
 (C:∀m B,cZ O m=some B->∀X Z g gd j,K W j->dt X Z g gd B j->Calls prog fb (args (.pointer (some ⟨g,0,none⟩))) j λe w'=>e=.returned (ret (f B).2)/\dt X Z g gd (f B).1 w'/\ag (λk=>¬Z k) j w') :
 (∃d:Int,(d != 0)=true/\Bd H O c a=(.pointer none,d)/\tF O c a z f=(O,z,d)) ∨
 ∃g t r,Bd H O c a=(.pointer (some ⟨g,0,none⟩),0)/\tF O c a z f=(t,r)/\∀j,K W j->Calls prog fb (args (.pointer (some ⟨g,0,none⟩))) j λe w'=>e=.returned (ret r)/\cQ H own t W w':=by
 unfold Bd tF
 rcases h.via D c z f C with ⟨d,E,A,u,y⟩|⟨g,t,r,A,u,y,F⟩
 all_goals grind
theorem Ub(h:bn H own O W cK)(E:oQ O) c a f(fb:Nat) cs(hf:∀args W,(callFunc fb args).run prog W=.ok (.enter fb args) W)
 (M:∀m B,cZ O m=some B->∀X Z g gd u,K W u->dt X Z g gd B u->Calls prog fb (#[.pointer (some ⟨g,0,none⟩),cA a]++cs) u λe w'=>e=.returned (.int .i64 (f B).2.2)/\dt X Z g gd (f B).1 w'/\ag (λk=>¬Z k) u w') :
 Calls prog 54 #[.pointer (some ⟨H.gw,0,none⟩),.int .i64 c,cA a,.func (.func fb) #[] cs] W λe w'=>e=.returned (.int .i64 (tF O c a () f).2.2)/\cQ H own (tF O c a () f).1 W w':=by
 have F:=ah.new W 26 #[.int .i64 a.1,.int .u64 a.2.1,.int .u64 a.2.2]
 have D:=F.aS
 have y:=ae (abD (h.st D) p2 pB E c a)
 have N:=h.aAU (ret:=λr=>.int .i64 r.2) (args:=λv=>#[v,cA a]++cs) E c a () f M
 generalize tF O c a () f=R at *
 have I:=ae λj (t:K (W.alloc (.cells #[.int .i64 a.1,.int .u64 a.2.1,.int .u64 a.2.2] 26)) j)=>(F.ay t).cell
 have G:=ae λj (t:K W j)=>h.now t
 rcases N with ⟨d,T,C,rfl⟩|⟨g,Y,⟨⟨⟩,ec⟩,C,rfl,S⟩
 ·rw[C]at y;go_in;go_wp2_with fail
  apply cF y.aa D;intro j t A;have HF:=ae (G.aa j A);exact QP
 ·have L:=ae S;rw[C]at y;go_in;go_wp2_with fail
  apply cF y.aa D;intro j t A;have J:=ae (L.aa j A);have:=I.aa j t;go_wp2_with fail
  apply aI J.aa;intro V Q;have HF:=ae Q;exact QP
theorem an0{X Z g gd B}(h:dt X Z g gd B W) a(G:dJ a) j u A(hb:ah W A 51 #[u])(C:iy j u W)(I:j.length<=1000000)(D:∀x∈j,lU x) :
 Calls prog 83 #[.pointer (some ⟨g,0,none⟩),cA a,.pointer (some ⟨A,0,none⟩)] W λe w'=>e=.returned (.int .i64 (dR B (ie B.aA a j)).2)/\dt X Z g gd (dR B (ie B.aA a j)).1 w'/\ag (λk=>¬Z k) W w':=by
 have y:=ah.new W 26 #[.int .i64 a.1,.int .u64 a.2.1,.int .u64 a.2.2]
 have t:=y.aS
 have F:=ae (av5 (h.st t) a G j u (mY j u _ _ C t) I D)
 have q:=y.cell
 have:=(hb.ay t).cell
 have L:=ae t
 generalize dR B (ie B.aA a j)=R at *
 go_in
 go_wp2_with fail
 apply aI F.aa
 rintro M⟨E,H⟩
 have J:=ae (And.intro E ((ag.aU L.aa _).tr H))
 go_wp2
 go_ret
 exact⟨rfl,J.aa⟩
theorem an9(h:bn H own O W cK)(L:oQ O) c a(J:dJ a) j u(C:iy j u W)(E:j.length<=1000000)(S:∀x∈j,lU x) :
 Calls prog 37 #[.pointer (some ⟨H.gw,0,none⟩),.int .i64 c,cA a,u] W λe w'=>e=.returned (.int .i64 (ia O c a λl=>ie l a j).2.2)/\cQ H own (ia O c a λl=>ie l a j).1 W w':=by
 obtain⟨y,t,rfl⟩:=wY C
 have M:=(ah.new W 26 #[.int .i64 a.1,.int .u64 a.2.1,.int .u64 a.2.2]).alloc (.cells #[.slice y j.length t] 51)
 have Q:=ah.new (W.alloc (.cells #[.int .i64 a.1,.int .u64 a.2.1,.int .u64 a.2.2] 26)) 51 #[.slice y j.length t]
 have A:=K.kK W (.cells #[.int .i64 a.1,.int .u64 a.2.1,.int .u64 a.2.2] 26) (.cells #[.slice y j.length t] 51)
 have N:=ae (Ub (h.st A) L c a (λB=>((dR B (ie B.aA a j)).1,(),(dR B (ie B.aA a j)).2)) 83 #[.pointer (some ⟨W.heap.size+1,0,none⟩)] (λ_ _=>rfl) λm B V X Z g gd T D F=>an0 F a J j _ _ (by simpa using Q.ay D) (mY j _ _ _ C (A.tr D)) E S)
 have HR:Hid (ia O c a (λl=>ie l a j)=tF O c a () λB=>((dR B (ie B.aA a j)).1,(),(dR B (ie B.aA a j)).2)):=ae rfl
 generalize ia O c a (λl=>ie l a j)=R at *
 have q:=M.cell
 have G:=ae A
 go_in
 go_wp2_with fail
 apply aI N.aa
 intro U I
 have HF:=ae (cQ.k G.aa I)
 go_wp2
 go_ret
 exact⟨fJ,DZ⟩
theorem aor(h:bn H own O W cK)(D:oQ O) c a(C:dJ a) :
 Calls prog 17 #[.pointer (some ⟨H.gw,0,none⟩),.int .i64 c,cA a] W λe w'=>e=.returned (.int .i64 (ia O c a λl=>iH l a).2.2)/\cQ H own (ia O c a λl=>iH l a).1 W w':=by
 have j:=ah.new W 26 #[.int .i64 a.1,.int .u64 a.2.1,.int .u64 a.2.2]
 have t:=j.aS
 have y:=ae (Ub (h.st t) D c a (λB=>((dR B (iH B.aA a)).1,(),(dR B (iH B.aA a)).2)) 55 #[] (λ_ _=>rfl) λm B J X Z g gd F I u=>axC u a C)
 have HR:Hid (ia O c a (λl=>iH l a)=tF O c a () λB=>((dR B (iH B.aA a)).1,(),(dR B (iH B.aA a)).2)):=ae rfl
 generalize ia O c a (λl=>iH l a)=R at *
 have q:=j.cell
 have E:=ae t
 go_in
 go_wp2_with fail
 apply aI y.aa
 intro G A
 have HF:=ae (cQ.k E.aa A)
 go_wp2
 go_ret
 exact⟨fJ,DZ⟩
theorem aoY(h:bn H own O W cK)(D:oQ O) c a(C:dJ a) :
 Calls prog 38 #[.pointer (some ⟨H.gw,0,none⟩),.int .i64 c,cA a] W λe w'=>e=.returned (.int .i64 (ia O c a λl=>iW l a).2.2)/\cQ H own (ia O c a λl=>iW l a).1 W w':=by
 have j:=ah.new W 26 #[.int .i64 a.1,.int .u64 a.2.1,.int .u64 a.2.2]
 have t:=j.aS
 have y:=ae (Ub (h.st t) D c a (λB=>((dR B (iW B.aA a)).1,(),(dR B (iW B.aA a)).2)) 85 #[] (λ_ _=>rfl) λm B J X Z g gd F I u=>ayF u a C)
 have HR:Hid (ia O c a (λl=>iW l a)=tF O c a () λB=>((dR B (iW B.aA a)).1,(),(dR B (iW B.aA a)).2)):=ae rfl
 generalize ia O c a (λl=>iW l a)=R at *
 have q:=j.cell
 have E:=ae t
 go_in
 go_wp2_with fail
 apply aI y.aa
 intro G A
 have HF:=ae (cQ.k E.aa A)
 go_wp2
 go_ret
 exact⟨fJ,DZ⟩
theorem aos(h:bn H own O W cK)(E:oQ O) c a :
 Calls prog 16 #[.pointer (some ⟨H.gw,0,none⟩),.int .i64 c,cA a] W λe w'=>e=.returned (.tuple #[.int .i64 (D4 O c a).1,.int .i64 (D4 O c a).2])/\K W w':=by
 have F:=ah.new W 26 #[.int .i64 a.1,.int .u64 a.2.1,.int .u64 a.2.2]
 have D:=F.aS
 have C:=ae (abD (h.st D) p2 pB E c a)
 have S:Hid (D4 O c a=(tF O c a (0:Int) λB=>(B,FU B a,0)).2):=ae rfl
 generalize D4 O c a=R at *
 have U:(∃d:Int,(d != 0)=true/\Bd H O c a=(.pointer none,d)/\R=(0,d))∨∃g B,Bd H O c a=(.pointer (some ⟨g,0,none⟩),0)/\R=(FU B a,0)/\∀y,K W y->∃X Z gd,dt X Z g gd B y:=by
  rw[S.aa];unfold Bd tF;rcases h.YU E c with ⟨d,G,A,hcall,Y⟩|⟨n,B,gd,g,h1,h2,h3,Q,I,h6,h7,h8,h9⟩
  ·grind
  ·rw[h7,h6,Q,I,h9];by_cases e:a.1=(n:Int)
   ·exact .inr ⟨g,B,DW,DW,λy j=>⟨_,_,gd,h8 y j⟩⟩
   simp_all
 rcases U with ⟨d,G,A,rfl⟩|⟨g,B,A,rfl,M⟩
 ·rw[A]at C;go_in;go_wp2_with fail
  apply cF C.aa D;intro t j u;go_wp2;go_ret2;exact⟨rfl,u⟩
 ·rw[A]at C;have T:=ae M;have J:=ae λt (j:K (W.alloc (.cells #[.int .i64 a.1,.int .u64 a.2.1,.int .u64 a.2.2] 26)) t)=>(F.ay j).cell
  go_in;go_wp2_with fail
  apply cF C.aa D;intro t j u;obtain⟨X,Z,gd,V⟩:=T.aa t u;have L:=ae (axD V a);have:=J.aa t j;go_wp2_with fail
  apply cF L.aa u;intro w3 k3 N;go_wp2;go_ret2;exact⟨rfl,N⟩
end
def eJ(par ai:List Int)(gw:Nat)(O:bz)(k:Nat)(Z:Nat->Prop)(W:World):Prop :=
 bM par ai O k/\∃H own,H.gw=gw/\bn H own O W cK/\∀b,Z b->b<W.heap.size/\own b=0
def nH(par ai:List Int)(gw:Nat)(O:bz)(k:Nat)(Z:Nat->Prop)(W W':World):Prop:=eJ par ai gw O k Z W'/\ag (λb=>¬Z b) W W'
section
variable {par ai:List Int} {gw k:Nat} {O O':bz} {Z:Nat->Prop} {W W':World}
theorem eJ.st(h:eJ par ai gw O k Z W)(u:K W W'):eJ par ai gw O k Z W':=by obtain⟨t,H,own,e,j,hz⟩:=h;exact⟨t,H,own,e,j.st u,λb hb=>⟨bw (hz b hb).1 u.size,(hz b hb).2⟩⟩
theorem eJ.more{Z'}(h:eJ par ai gw O k Z W)(u:K W W')(y:∀b,Z' b->Z b∨W.heap.size<=b/\b<W'.heap.size):eJ par ai gw O k Z' W':=by
 obtain⟨t,H,own,e,j,hz⟩:=h;have:=u.size;refine⟨t,H,own,e,j.st u,λb hb=>?_⟩;rcases y b hb with h|h
 ·grind
 ·exact⟨h.2,by have:=j.lo b;omega⟩
theorem eJ.go(h:eJ par ai gw O k Z W){fb}{args:Value->Array Value}{R:Ending->World->Prop}{j}
 (F:∀H own,bn H own O W cK->Calls prog fb (args (.pointer (some ⟨H.gw,0,none⟩))) W λe w'=>R e w'/\cQ H own O' W w') (A:bM par ai O' j) :
 Calls prog fb (args (.pointer (some ⟨gw,0,none⟩))) W λe w'=>R e w'/\nH par ai gw O' j Z W w':=by
 obtain⟨-,H,own,rfl,u,hz⟩:=h
 refine (F H own u).mono ?_
 rintro e w'⟨C,E,B,y,D,t,G⟩
 have:=t.size
 exact⟨C,⟨A,E,B,D,y,λb hb=>⟨aB,(G b (hz b hb).1).trans (hz b hb).2⟩⟩,t.more λb hb J=>aB⟩
theorem eJ.begin(h:eJ par ai gw O k Z W)(hk:k<=40000){c}(j:bR c) :
 Calls prog 14 #[.pointer (some ⟨gw,0,none⟩),.int .i64 c] W λe w'=>e=.returned (.tuple #[cA (uZ O c).2.1,.int .i64 (uZ O c).2.2])/\nH par ai gw (uZ O c).1 (k+1) Z W w' :=
 h.go (args:=λp=>#[p,.int .i64 c]) (λH own t=>aoV t h.1.fZ c j λn B hu=>ajm) (h.1.begin af j)
theorem eJ.sub(h:eJ par ai gw O k Z W)(hk:k<=40000){c}(j:bR c){n:Nat}(hn:n<18446744073709551616){f vf}(A:eI f vf W)(hfit:∀t∈f,iB t)(y:f.length<=1000000) :
 Calls prog 32 #[.pointer (some ⟨gw,0,none⟩),.int .i64 c,.int .u64 n,vf] W λe w'=>e=.returned (.tuple #[cA (y9 O c n f).2.1,.int .i64 (y9 O c n f).2.2])/\nH par ai gw (y9 O c n f).1 (k+1) Z W w' :=
 h.go (args:=λp=>#[p,.int .i64 c,.int .u64 n,vf]) (λH own u=>aqT u h.1.fZ c j n hn f vf A hfit y λn B hu=>ajm) (h.1.sub af j hn hfit)
theorem eJ.FX(h:eJ par ai gw O k Z W) c{a}(y:dJ a){j u}(A:iy j u W)(E:j.length<=1000000)(t:∀x∈j,lU x) :
 Calls prog 37 #[.pointer (some ⟨gw,0,none⟩),.int .i64 c,cA a,u] W λe w'=>e=.returned (.int .i64 (ia O c a λl=>ie l a j).2.2)/\nH par ai gw (ia O c a λl=>ie l a j).1 (k+1) Z W w' :=
 h.go (args:=λp=>#[p,.int .i64 c,cA a,u]) (λH own C=>an9 C h.1.fZ c a y j u A E t) (h.1.keep c a _ λB D=>D.FX t y)
theorem eJ.F5(h:eJ par ai gw O k Z W) c{a}(j:dJ a) :
 Calls prog 17 #[.pointer (some ⟨gw,0,none⟩),.int .i64 c,cA a] W λe w'=>e=.returned (.int .i64 (ia O c a λl=>iH l a).2.2)/\nH par ai gw (ia O c a λl=>iH l a).1 (k+1) Z W w' :=
 h.go (args:=λp=>#[p,.int .i64 c,cA a]) (λH own t=>aor t h.1.fZ c a j) (h.1.keep c a _ λB u=>u.F5 j)
theorem eJ.abort(h:eJ par ai gw O k Z W) c{a}(j:dJ a) :
 Calls prog 38 #[.pointer (some ⟨gw,0,none⟩),.int .i64 c,cA a] W λe w'=>e=.returned (.int .i64 (ia O c a λl=>iW l a).2.2)/\nH par ai gw (ia O c a λl=>iW l a).1 (k+1) Z W w' :=
 h.go (args:=λp=>#[p,.int .i64 c,cA a]) (λH own t=>aoY t h.1.fZ c a j) (h.1.keep c a _ λB u=>u.abort j)
theorem eJ.round(h:eJ par ai gw O k Z W)(hp:par.length<=6)(hk:k+588<=40000) :
 Calls prog 31 #[.pointer (some ⟨gw,0,none⟩)] W λe w'=>e=.returned (.tuple #[])/\nH par ai gw (sP O) (k+588) Z W w' :=
 h.go (args:=λp=>#[p]) (λH own j=>aoX j h.1 hp hk) (h.1.round hp af)
theorem eJ.tick(h:eJ par ai gw O k Z W)(hk:k<=40000) n :
 Calls prog 12 #[.pointer (some ⟨gw,0,none⟩),.int .i64 n] W λe w'=>e=.returned (.int .i64 (oJ O n).2)/\nH par ai gw (oJ O n).1 (k+1) Z W w' :=
 h.go (args:=λp=>#[p,.int .i64 n]) (λH own j=>ab8 j h.1 hk n) (h.1.tick n)
theorem eJ.D6(h:eJ par ai gw O k Z W)(hk:k<=40000) a b :
 Calls prog 18 #[.pointer (some ⟨gw,0,none⟩),.int .i64 a,.int .i64 b] W λe w'=>e=.returned (.int .i64 (mV O a b).2)/\nH par ai gw (mV O a b).1 (k+1) Z W w' :=
 h.go (args:=λp=>#[p,.int .i64 a,.int .i64 b]) (λH own j=>abB j h.1 hk a b) (h.1.D6 af a b)
theorem eJ.I3(h:eJ par ai gw O k Z W) n keep(hk:bR keep) :
 Calls prog 11 #[.pointer (some ⟨gw,0,none⟩),.int .i64 n,.int .i64 keep] W λe w'=>e=.returned (.int .i64 (tU O n).2)/\nH par ai gw (tU O n).1 k Z W w' :=
 h.go (args:=λp=>#[p,.int .i64 n,.int .i64 keep]) (λH own j=>aoU j h.1 n keep hk) (h.1.I3 n)
theorem eJ.IM(h:eJ par ai gw O k Z W)(hk:k<=40000) n :
 Calls prog 20 #[.pointer (some ⟨gw,0,none⟩),.int .i64 n] W λe w'=>e=.returned (.int .i64 (tL O n).2)/\nH par ai gw (tL O n).1 (k+1) Z W w' :=
 h.go (args:=λp=>#[p,.int .i64 n]) (λH own j=>an8 j h.1 hk n) (h.1.IM n af)
theorem eJ.Gv(h:eJ par ai gw O k Z W)(hk:k<=40000) c :
 Calls prog 15 #[.pointer (some ⟨gw,0,none⟩),.int .i64 c] W λe w'=>(∃v,e=.returned (.tuple #[v,.int .i64 (lT O c).2.2])/\aq cI (lT O c).2.1 v w')/\nH par ai gw (lT O c).1 (k+1) Z W w' :=
 h.go (args:=λp=>#[p,.int .i64 c]) (λH own j=>(apH j h.1 hk c).mono λe w' ⟨v,t,u,y⟩=>⟨⟨v,t,u⟩,y⟩) (h.1.Gv c)
theorem eJ.status(h:eJ par ai gw O k Z W) c a :
 Calls prog 16 #[.pointer (some ⟨gw,0,none⟩),.int .i64 c,cA a] W λe w'=>e=.returned (.tuple #[.int .i64 (D4 O c a).1,.int .i64 (D4 O c a).2])/\K W w':=by
 obtain⟨t,H,own,rfl,j,-⟩:=h
 exact aos j t.fZ c a
theorem eJ.ajQ(h:eJ par ai gw O k Z W) c :
 Calls prog 25 #[.pointer (some ⟨gw,0,none⟩),.int .i64 c] W λe w'=>e=.returned (.int .i64 (D7 O c))/\w'=W:=by
 obtain⟨t,H,own,rfl,j,-⟩:=h
 exact aoq j p2 t.fZ c
theorem eJ.got(h:eJ par ai gw O k Z W)(hk:k<=40000)(u:∀l∈O.got,∀b∈l,b.length<=1000000/\∀e∈b,e.length<=1000000) c :
 Calls prog 26 #[.pointer (some ⟨gw,0,none⟩),.int .i64 c] W λe w'=>∃v,e=.returned v/\aq (AW cI) (xA O c) v w'/\K W w':=by
 obtain⟨t,H,own,rfl,j,-⟩:=h
 grind [aqV]
theorem eJ.state(h:eJ par ai gw O k Z W) n :
 Calls prog 19 #[.pointer (some ⟨gw,0,none⟩),.int .i64 n] W λe w'=>∃vl vp va,e=.returned (.agg (cJ (my O n) vl vp va))/\lG (λk=>k<W.heap.size) (my O n) vl vp va w'/\K W w':=by
 obtain⟨t,H,own,rfl,j,-⟩:=h
 grind [abQ,p2,pB]
theorem eJ.busy(h:eJ par ai gw O k Z W) n :
 Calls prog 24 #[.pointer (some ⟨gw,0,none⟩),.int .i64 n] W λe w'=>e=.returned (.int .i64 (Eo O n:Int))/\K W w':=by
 obtain⟨t,H,own,rfl,j,-⟩:=h
 grind [apI,p2,pB]
theorem eJ.up(h:eJ par ai gw O k Z W) n :
 Calls prog 13 #[.pointer (some ⟨gw,0,none⟩),.int .i64 n] W λe w'=>e=.returned (.bool (cZ O n).isSome)/\w'=W:=by
 obtain⟨t,H,own,rfl,j,-⟩:=h
 exact Ph j p2 pB t.fZ n
end
theorem ajn par ai room j t w(D:aq cL par j w)(F:aq cL ai t w)(A:fK par=true)(B:kN par ai=true)(u:ir (dc (cR cV))<=room)(y:room<=1048576) Z(E:∀b,Z b->b<w.heap.size) :
 Calls prog 10 #[j,t,.int .i64 room] w λe w'=>∃gw,e=.returned (.tuple #[.pointer (some ⟨gw,0,none⟩),.int .i64 0])/\eJ par ai gw (rG par ai room) 0 Z w'/\K w w':=by
 refine (aqS par ai room j t w D F A B u y).mono ?_
 rintro e w'⟨H,own,rfl,C,G,k⟩
 have:=k.size
 exact⟨_,rfl,⟨bM.new A B u y,H,own,rfl,C,λb hb=>⟨aB,G b (E b hb)⟩⟩,k⟩
def pG(L:List iV)(k:Int×Int):List iV×Int:=match lM L k with
 | none=>(L,140)
 | some []=>(L,141)
 | some (_ :: l)=>(iE L k l,0)
def rZ(L:List iV)(k:Int×Int):List iV×Int:=match lM L k with
 | none=>(L,140)
 | some []=>(L,141)
 | some (m :: l)=>(iE L k (l++[m]),0)
def rV(L:List iV)(k:Int×Int):List iV×Int:=match lM L k with
 | none=>(L,140)
 | some []=>(L,141)
 | some (m :: l)=>if l.length=7 then (L,141)else (iE L k (m :: l++[m]),0)
section
variable {gn gm c:Nat} {ak:List ((Int×Int)×Value)} {l:List Value} {w:World} {a b:Int}
theorem awh(hb:ah w gn 149 #[.map (some gm)])(hm:dM oh w gm ak)(hk:cT ak (a,b)=none) :
 Calls prog 82 #[.pointer (some ⟨gn,0,none⟩),.int .i64 a,.int .i64 b] w λe w'=>e=.returned (.int .i64 140)/\w'=w:=by
 have j:=ae (zV a b w hb hm)
 rw[hk]at j
 go_in
 go_wp2_with fail
 apply aI j.aa
 rintro w' rfl
 simp only[Option.getD_none,Option.isSome_none]
 go_wp2
 go_ret
 exact⟨rfl,rfl⟩
theorem auo(hb:ah w gn 149 #[.map (some gm)])(hm:dM oh w gm ak)(hk:cT ak (a,b)=none) :
 Calls prog 81 #[.pointer (some ⟨gn,0,none⟩),.int .i64 a,.int .i64 b] w λe w'=>e=.returned (.int .i64 140)/\w'=w:=by
 have j:=ae (zV a b w hb hm)
 rw[hk]at j
 go_in
 go_wp2_with fail
 apply aI j.aa
 rintro w' rfl
 simp only[Option.getD_none,Option.isSome_none]
 go_wp2
 go_ret
 exact⟨rfl,rfl⟩
theorem aqX(hb:ah w gn 149 #[.map (some gm)])(hm:dM oh w gm ak)(hk:cT ak (a,b)=some (.chan (some c)))(G:kp c l w)(H:∀x∈l,∃A n d,x=.slice A n d)(h8:l.length<=8) :
 Calls prog 82 #[.pointer (some ⟨gn,0,none⟩),.int .i64 a,.int .i64 b] w λe w'=>e=.returned (.int .i64 (if l=[]then 141 else 0))/\kp c (l.tail++l.take 1) w'/\ag (λk=>k=c) w w':=by
 have u:=ae (zV a b w hb hm)
 have I:=ae (Uy c l w G)
 rw[hk]at u
 go_in
 go_wp2_with fail
 apply aI u.aa
 rintro w' rfl
 simp only[Option.getD_some,Option.isSome_some]
 go_wp2_with fail
 apply aI I.aa
 rintro E⟨y,B⟩
 cases l with
 | nil => have j:=ae (And.intro y B);go_wp2;go_ret;exact⟨rfl,j.aa⟩
 | cons x l =>
  obtain⟨A,n,d,rfl⟩:=H x aj;have t:=ae (KT c l (.slice A n d) E y);have j:=ae B;have h7:l.length<8:=by simp at h8;omega
  simp only[List.headD_cons,List.isEmpty_cons,Bool.not_false];rw[if_pos h7]at t;go_wp2_with fail
  apply aI t.aa;rintro J⟨C,D⟩;have F:=ae (And.intro C (j.aa.tr D));go_wp2;go_ret;exact⟨aj,by simpa using F.aa⟩
def H7(c:Nat)(l:List Value)(bs:List UInt8)(w:World)(e:Ending)(w':World):Prop :=
 if l=[]∨l.length=8 then e=.returned (.int .i64 141)/\w'=w else e=.returned (.int .i64 0)/\(∃v',kp c (l++[v']) w'/\Fx (λk=>k<w.heap.size) (λW=>sl bs v' W) w')/\ag (λk=>k=c) w w'
theorem apK(hb:ah w gn 149 #[.map (some gm)])(hm:dM oh w gm ak)(hk:cT ak (a,b)=some (.chan (some c)))(hc:kp c l w)(h8:l.length<=8)(bs:List UInt8)
 (hs:∀x∈l,∃A n d,x=.slice A n d) (hv:∀x,l.head?=some x->Fx (λk=>k=c) (λW=>sl bs x W) w) (hn:bs.length<=1000000000) :
 Calls prog 81 #[.pointer (some ⟨gn,0,none⟩),.int .i64 a,.int .i64 b] w (H7 c l bs w):=by
 have Z:=ae λ(h:l=[]∨l.length=8)=>show H7 c l bs w (.returned (.int .i64 141)) w by unfold H7;rw[if_pos h];exact⟨rfl,rfl⟩
 have Q:=ae λ(h:¬(l=[]∨l.length=8)) w' q=>show H7 c l bs w (.returned (.int .i64 0)) w' by unfold H7;rw[if_neg h];exact⟨rfl,q⟩
 generalize H7 c l bs w=PP at *
 have C1:=ae (zV a b w hb hm)
 have X:=ae hc
 obtain⟨s,r,hc⟩:=hc
 have hlen:∀ty,(Builtin.len_ #[151] ty #[.chan (some c)]).run prog w=.ok (.int .i64 l.length) w:=λty=>by exact aiW
 rw[hk]at C1
 go_in
 go_wp2_with fail
 apply aI C1.aa
 rintro w' rfl
 simp only[Option.getD_some,Option.isSome_some]
 cases l with
 | nil => go_wp2;exact Z.aa (.inl trivial)
 | cons x l =>
  have U:((((x :: l).length:Nat):Int)==0)=false:=aY;by_cases h9:(x :: l).length=8
  ·have h9i:(((x :: l).length:Nat):Int)=8:=af;go_wp2;exact Z.aa (.inr h9)
  ·replace Q:=ae (Q.aa (by simp;simp at h9;omega));have h9i:((((x :: l).length:Nat):Int)==8)=false:=We;have h7:(x :: l).length<8:=af;have HX:=ae (hv x rfl);obtain⟨A,n,d,rfl⟩:=hs x aj;have HS:=ae hs;have HL:Hid ((.slice A n d :: l)[0]?=some (.slice A n d)):=ae rfl;generalize hL:Value.slice A n d :: l=L at *;have HNE:=ae hL;have G:Hid (kp c (L.drop 0++L.take 0) w'/\ag (λk=>k=c) w' w'):=ae ⟨by simpa using X.aa,ag.rf _ _⟩;have HI:=ae X.aa.lt;go_wp2_with fail
   go_loopw [10,11,12,13,33] (fun f _ _ _ i W=>∃j:Nat,j<=L.length/\i=.int .i64 j/\f=(if j=0 then .slice none 0 0 else .slice A n d)/\Hid (kp c (L.drop j++L.take j) W/\ag (fun k=>k=c) w' W)) (fun _ _ _ _ i _=>L.length-(intOf i).toNat)
   case atStart=>exact⟨0,eE _,rfl,rfl,G⟩
   case round =>
    obtain⟨j,hj,rfl,rfl,J⟩:=hrel;by_cases I:j<L.length
    ·have aO:(j:Int)<L.length:=af;have hd:L.drop j++L.take j=L[j] :: (L.drop (j+1)++L.take j):=by rw[List.drop_eq_getElem_cons I];rfl
     have B:=Uy c _ wr J.aa.1;rw[hd]at B;replace B:=ae B;obtain⟨H,M,d1,E⟩:=HS.aa _ (bT I);have y:=ae J.aa.2;have HE:Hid (j=0->Value.slice H M d1=.slice A n d):=ae λe=>by subst e;have:=HL.aa;rw[List.getElem?_eq_getElem I,E]at this;injection this
     have N:Hid (L.drop (j+1)++L.take j++[.slice H M d1]=L.drop (j+1)++L.take (j+1)):=ae (by rw[gg I,E,dQ]);rw[E]at B;by_cases hz:j=0
     ·have hz1:((j:Int)==0)=true:=IK;have e9:=ae (HE.aa hz);rw[if_pos hz];go_wp2_with fail
      apply aI B.aa;rintro C⟨F,D⟩;have t:=KT c _ (.slice H M d1) C F;simp only[List.tail_cons,if_pos (show (L.drop (j+1)++L.take j).length<8 by simp;omega),N.aa]at t;replace t:=ae t;replace y:=ae (y.aa.tr D);simp only[List.headD_cons,List.isEmpty_cons,Bool.not_false];go_wp2_with fail
      apply aI t.aa;rintro w4⟨S,R⟩;have G:=ae (And.intro S (y.aa.tr R));go_wp2;go_roundw
      case rel=>exact⟨j+1,af,bD,by rw[e9.aa,if_neg (Nat.succ_ne_zero j)],G⟩
      case measure=>simp[intOf];omega
     ·have hz1:((j:Int)==0)=false:=We;rw[if_neg hz];go_wp2_with fail
      apply aI B.aa;rintro C⟨F,D⟩;have t:=KT c _ (.slice H M d1) C F;simp only[List.tail_cons,if_pos (show (L.drop (j+1)++L.take j).length<8 by simp;omega),N.aa]at t;replace t:=ae t;replace y:=ae (y.aa.tr D);simp only[List.headD_cons,List.isEmpty_cons,Bool.not_false];go_wp2_with fail
      apply aI t.aa;rintro w4⟨S,R⟩;have G:=ae (And.intro S (y.aa.tr R));go_wp2;go_roundw
      case rel=>exact⟨j+1,af,bD,by rw[if_neg (Nat.succ_ne_zero j)],G⟩
      case measure=>simp[intOf];omega
    ·have aO:¬(j:Int)<L.length:=af;obtain rfl:j=L.length:=af;have hj0:L.length≠0:=λe=>by rw[e]at U;cases U
     obtain⟨A',d',e',hr⟩:=HX.aa wr J.aa.2;injection e' with E e2 e3;subst E e2 e3;have B:=ae (KB A bs.length d _ wr hr (uU bs) hn);have O:Hid (kp c L wr/\ag (λk=>k=c) w' wr):=ae (by simpa using J.aa);rw[if_neg hj0];go_wp2_with fail
     apply bN B.aa;rintro v' V⟨T,Y⟩;have t:=KT c L v' V (O.aa.1.aX (ag.aU Y (λ_=>False)) id);simp only[if_pos h7]at t;replace t:=ae t;have hz:=O.aa.2.size;have N:=ae (show Fx (λk=>k<w'.heap.size) (λW=>sl bs v' W) V from λW u=>eK (iN T u λk e h=>by have:=(T.lt k e).1;omega));have y:=ae (O.aa.2.tr (ag.aU Y _));go_wp2_with fail
     apply aI t.aa;rintro C⟨F,D⟩;have H3:=ae (show (∃v',kp c (L++[v']) C/\Fx (λk=>k<w'.heap.size) (λW=>sl bs v' W) C)/\ag (λk=>k=c) w' C from ⟨⟨v',F,N.aa.up D λk e=>e▸HI.aa⟩,y.aa.tr D⟩);go_wp2;exact Q.aa _ H3.aa
end
section
variable {M C:Nat->Prop} {gn:Nat} {L:List iV} {W:World} {a b:Int}
theorem aqY(h:mU M C gn L W) :
 Calls prog 80 #[.pointer (some ⟨gn,0,none⟩),.int .i64 a,.int .i64 b] W λe w'=>e=.returned (.int .i64 (pG L (a,b)).2)/\ag C W w'/\mU M C gn (pG L (a,b)).1 w':=by
 have B:=ae (acH (a:=a) (b:=b) h)
 have:Hid (∀r,pG L (a,b)=r->pG L (a,b)=r):=ae λ_ h=>h
 go_in
 go_wp2_with fail
 refine B.aa.mono ?_
 rintro e A⟨v,D,rfl,u,h⟩
 have y:Hid (D=(pG L (a,b)).2/\ag C W A/\mU M C gn (pG L (a,b)).1 A):=ae (by
  unfold pG;rcases h with ⟨j,rfl,t⟩|⟨j,rfl,t⟩|⟨m,l,j,rfl,t,-⟩
  ·rw[j];exact⟨rfl,u,t⟩
  ·rw[j];exact⟨rfl,u,t⟩
  ·rw[j];exact⟨rfl,u,t⟩)
 go_wp2
 go_ret
 exact⟨by rw[y.aa.1];rfl,y.aa.2⟩
theorem aqZ(h:mU M C gn L W)(T:∀q∈L,q.2.length<=8) :
 Calls prog 82 #[.pointer (some ⟨gn,0,none⟩),.int .i64 a,.int .i64 b] W λe w'=>e=.returned (.int .i64 (rZ L (a,b)).2)/\ag C W w'/\mU M C gn (rZ L (a,b)).1 w':=by
 obtain⟨gm,ak,h⟩:=h
 have hU:=h.kn
 rcases IP ak L (a,b) h.len (λi h1 t=>(h.ls i h1 t).1)with ⟨h1,t⟩|⟨i,h1,t,h3,F,V⟩
 ·apply aI (awh h.blk h.map AF);rintro w' rfl;unfold rZ;rw[h1];exact QT
 ·obtain⟨c,vs,e,B,Q,q3,y⟩:=(h.ls i h1 t).2;have J:∀x∈vs,∃A n d,x=.slice A n d:=λx H=>by
   obtain⟨j,hj,rfl⟩:=List.getElem_of_mem H
   obtain⟨A,d,e,-⟩:=(y j hj af).2.now
   grind
  have X:=T _ (bT t);apply aI (aqX h.blk h.map AF Q J af);rintro w'⟨S,u⟩;have hM:=h.sub c B;obtain⟨D,oX⟩:∃D,L[i].2=D:=⟨_,rfl⟩;simp only[oX]at F q3 y;unfold rZ;rw[F];have key:∀l,(vs.tail++vs.take 1).length=l.length->(∀(j:Nat) (hj:j<(vs.tail++vs.take 1).length) (O:j<l.length),l[j].length<=1000000000/\Fx M (λW=>sl l[j] (vs.tail++vs.take 1)[j] W) w')->wU M C gn gm ak (iE L (a,b) l) w':=λl R I =>
   h.set h1 h3 e u ⟨c,_,e,B,S,R,I⟩
  have G:ag C W w':=u.more λk hk=>hk▸B
  cases D with
  | nil =>
   obtain rfl:vs=[]:=List.eq_nil_of_length_eq_zero LO;have N:iE L (a,b) []=L:=List.ext_getElem Xy λj g1 g2=>by exact aiX
   exact⟨rfl,G,gm,ak,N▸key [] aj (λj hj=>by simp at hj)⟩
  | cons m l =>
   cases vs with
   | nil=>simp at q3
   | cons x vs =>
    refine⟨rfl,G,gm,ak,key _ LO λj hj O=>?_⟩;have U:vs.length=l.length:=LO;simp only[List.tail_cons,Q5,Q8]at hj⊢;by_cases E:j<vs.length
    ·have:=y (j+1) (by simpa using E) aY;simp only[List.getElem_append_left E,List.getElem_append_left (show j<l.length by omega)];exact Xz
    ·have:=y 0 aj aj;obtain rfl:j=vs.length:=QM;simp only[List.getElem_concat_length,U];exact Xz
theorem apM(h:mU M C gn L W)(Z:∀k,M k->k<W.heap.size)(Y:∀q∈L,q.2.length<=8) :
 Calls prog 81 #[.pointer (some ⟨gn,0,none⟩),.int .i64 a,.int .i64 b] W λe w'=>e=.returned (.int .i64 (rV L (a,b)).2)/\ag C W w'/\mU M C gn (rV L (a,b)).1 w':=by
 obtain⟨gm,ak,h⟩:=h
 rcases IP ak L (a,b) h.len (λi D F=>(h.ls i D F).1)with ⟨D,F⟩|⟨i,D,F,T,J,h5⟩
 ·apply aI (auo h.blk h.map AF);rintro w' rfl;unfold rV;rw[D];exact QT
 ·obtain⟨c,vs,e,G,S,t,B⟩:=(h.ls i D F).2;have Q:∀x∈vs,∃A n d,x=.slice A n d:=λx hx=>by
   obtain⟨j,hj,rfl⟩:=List.getElem_of_mem hx
   obtain⟨A,d,e,-⟩:=(B j hj af).2.now
   grind
  have X:=Y _ (bT F);have I:=h.sub c G;obtain⟨E,O⟩:∃E,L[i].2=E:=⟨_,rfl⟩;simp only[O]at J t B X;refine (apK h.blk h.map AF S af (E.headD []) Q (λx hx=>?_) ?_).mono ?_
  ·cases vs with
   | nil=>cases hx
   | cons y vs =>
    cases E with
    | nil=>simp at t
    | cons m l => obtain rfl:y=x:=PK;exact (B 0 aj aj).2.less λk e=>e▸I
  ·cases E with
   | nil=>simp
   | cons m l=>exact (B 0 (by simp only[eQ]at t;omega) aj).1
  intro e w' hp;unfold H7 at hp;unfold rV;rw[J];cases E with
  | nil => rw[if_pos (.inl (List.eq_nil_of_length_eq_zero t))]at hp;obtain⟨rfl,rfl⟩:=hp;exact QT
  | cons m l =>
   simp only[eQ]at t;by_cases h7:l.length=7
   ·rw[if_pos (.inr af)]at hp;obtain⟨rfl,rfl⟩:=hp;dsimp only;rw[if_pos h7];exact QT
   ·rw[if_neg (λh9=>h9.elim (λe=>by rw[e]at t;simp at t) λe=>af)]at hp;obtain⟨rfl,⟨v',V,N⟩,u⟩:=hp;dsimp only;rw[if_neg h7];have hm:=(B 0 af aj).1;refine⟨rfl,u.more λk hk=>hk▸G,gm,ak,h.set D T fk u ⟨c,_,fk,G,V,aY,λj hj R=>?_⟩⟩;by_cases H:j<vs.length
    ·simp only[List.getElem_append_left H,List.getElem_append_left (show j<(m :: l).length by simp;omega)];exact⟨(B j H aY).1,(B j H aY).2.up u λk e=>e▸I⟩
    ·obtain rfl:j=vs.length:=QM;have U:(m :: l++[m])[vs.length]'R=m:=by rw[List.getElem_append_right (by simp;omega)];simp
     rw[U];simp only[List.getElem_concat_length];exact⟨hm,N.less Z⟩
end
def nz(O:bz)(f:List iV->Int×Int->List iV×Int)(a b:Int):bz×Int:=({ O with cD:=(f O.cD (a,b)).1 },(f O.cD (a,b)).2)
section
variable {W W2:World} {H:lN} {own:Nat->Nat} {O:bz} {par ai:List Int} {gw k:Nat} {Z:Nat->Prop}
theorem Uo{j fb:Nat}{a b:Int}{R:bz×Int}(h:bn H own O W cK)(t:H.vn=.pointer (some ⟨j,0,none⟩))(D:∀args W,(callFunc fb args).run prog W=.ok (.enter fb args) W)
 (B:Calls prog fb #[.pointer (some ⟨j,0,none⟩),.int .i64 a,.int .i64 b] W λe w'=>e=.returned (.int .i64 R.2)/\cQ H own R.1 W w') :
 Calls prog 79 #[.pointer (some ⟨H.gw,0,none⟩),.int .i64 a,.int .i64 b,.func (.func fb) #[] #[]] W λe w'=>e=.returned (.int .i64 R.2)/\cQ H own R.1 W w':=by
 have u:=ae B
 have q:=(h.fc p2).blk.cell
 rw[t]at q
 go_in
 go_wp2_with fail
 apply aI u.aa
 intro C y
 have A:=ae y
 go_wp2
 go_ret
 exact⟨rfl,A.aa⟩
theorem apN(h:bn H own O W cK) a b :
 Calls prog 34 #[.pointer (some ⟨H.gw,0,none⟩),.int .i64 a,.int .i64 b] W λe w'=>e=.returned (.int .i64 (nz O pG a b).2)/\cQ H own (nz O pG a b).1 W w':=by
 obtain⟨D,t,j⟩:=h.cD (show cK 3 by grind [cK])
 have y:=ae (Uo (a:=a) (b:=b) (R:=nz O pG a b) h t (fb:=80) (λ_ _=>rfl) ((aqY j).mono λe w' ⟨C,u,A⟩=>⟨C,h.Re t A u⟩))
 go_in
 go_wp2_with fail
 apply aI y.aa
 intro E j
 have B:=ae j
 go_wp2
 go_ret
 exact⟨rfl,B.aa⟩
theorem apO(h:bn H own O W cK)(D:∀q∈O.cD,q.2.length<=8) a b :
 Calls prog 36 #[.pointer (some ⟨H.gw,0,none⟩),.int .i64 a,.int .i64 b] W λe w'=>e=.returned (.int .i64 (nz O rZ a b).2)/\cQ H own (nz O rZ a b).1 W w':=by
 obtain⟨E,t,j⟩:=h.cD (show cK 3 by grind [cK])
 have y:=ae (Uo (a:=a) (b:=b) (R:=nz O rZ a b) h t (fb:=82) (λ_ _=>rfl) ((aqZ j D).mono λe w' ⟨C,u,A⟩=>⟨C,h.Re t A u⟩))
 go_in
 go_wp2_with fail
 apply aI y.aa
 intro F j
 have B:=ae j
 go_wp2
 go_ret
 exact⟨rfl,B.aa⟩
theorem aoZ(h:bn H own O W cK)(D:∀q∈O.cD,q.2.length<=8) a b :
 Calls prog 35 #[.pointer (some ⟨H.gw,0,none⟩),.int .i64 a,.int .i64 b] W λe w'=>e=.returned (.int .i64 (nz O rV a b).2)/\cQ H own (nz O rV a b).1 W w':=by
 obtain⟨E,t,j⟩:=h.cD (show cK 3 by grind [cK])
 have y:=ae (Uo (a:=a) (b:=b) (R:=nz O rV a b) h t (fb:=81) (λ_ _=>rfl) ((apM j h.lo D).mono λe w' ⟨C,u,A⟩=>⟨C,h.Re t A u⟩))
 go_in
 go_wp2_with fail
 apply aI y.aa
 intro F j
 have B:=ae j
 go_wp2
 go_ret
 exact⟨rfl,B.aa⟩
theorem ad8(L:List iV)(j:∀q∈L,q.2.length<=8) k:(pG L k).1.map (·.1)=L.map (·.1)/\∀q∈(pG L k).1,q.2.length<=8:=by
 unfold pG;split
 ·exact⟨rfl,j⟩
 ·exact⟨rfl,j⟩
 ·next m l h =>
  have t:=j _ (yC h);exact⟨K8 _ _ _,La j (by simp at t;omega)⟩
theorem ad9(L:List iV)(hf:∀q∈L,q.2.length<=8) k:(rZ L k).1.map (·.1)=L.map (·.1)/\∀q∈(rZ L k).1,q.2.length<=8:=by
 unfold rZ;split
 ·exact⟨rfl,hf⟩
 ·exact⟨rfl,hf⟩
 ·next m l h =>
  have h0:=hf _ (yC h);exact ajo
theorem adi(L:List iV)(hf:∀q∈L,q.2.length<=8) k:(rV L k).1.map (·.1)=L.map (·.1)/\∀q∈(rV L k).1,q.2.length<=8:=by
 unfold rV;split
 ·exact⟨rfl,hf⟩
 ·exact⟨rfl,hf⟩
 ·next m l h =>
  have h0:=hf _ (yC h);split
  ·exact⟨rfl,hf⟩
  ·exact ajo
theorem eJ.drop(h:eJ par ai gw O k Z W) a b :
 Calls prog 34 #[.pointer (some ⟨gw,0,none⟩),.int .i64 a,.int .i64 b] W λe w'=>e=.returned (.int .i64 (nz O pG a b).2)/\nH par ai gw (nz O pG a b).1 k Z W w' :=
 h.go (args:=λp=>#[p,.int .i64 a,.int .i64 b]) (λH own j=>apN j a b) (h.1.cD (ad8 _ h.1.few _).1 (ad8 _ h.1.few _).2)
theorem eJ.turn(h:eJ par ai gw O k Z W) a b :
 Calls prog 36 #[.pointer (some ⟨gw,0,none⟩),.int .i64 a,.int .i64 b] W λe w'=>e=.returned (.int .i64 (nz O rZ a b).2)/\nH par ai gw (nz O rZ a b).1 k Z W w' :=
 h.go (args:=λp=>#[p,.int .i64 a,.int .i64 b]) (λH own j=>apO j h.1.few a b) (h.1.cD (ad9 _ h.1.few _).1 (ad9 _ h.1.few _).2)
theorem eJ.twice(h:eJ par ai gw O k Z W) a b :
 Calls prog 35 #[.pointer (some ⟨gw,0,none⟩),.int .i64 a,.int .i64 b] W λe w'=>e=.returned (.int .i64 (nz O rV a b).2)/\nH par ai gw (nz O rV a b).1 k Z W w' :=
 h.go (args:=λp=>#[p,.int .i64 a,.int .i64 b]) (λH own j=>aoZ j h.1.few a b) (h.1.cD (adi _ h.1.few _).1 (adi _ h.1.few _).2)
end
def vV:eW:=⟨1,0,[],[],[],[],[],[]⟩
def Be:eW:=⟨2,0,[],[],[],[],[],[]⟩
def nI(b:List UInt8):Prop:=b=gD vV∨b=gD Be
structure QS(s:dy):Prop where
 l:s.list=[]
 p:s.prom=[]
 a:s.ab=[]
structure QB(B:bf):Prop where
 st:QS B.st
 tx:B.aA=[]
 bI:∀p∈B.bI,p.2=vV
 told:B.told=[]
 ref:B.refused=[]
 waits:B.waits=[]
structure QO(O:bz):Prop where
 eC:∀(n:Nat) x,O.eC[n]?=some x->(∀B,x.up=some B->QB B)/\(x.up=none->QS (Ff x.dk))
 cD:∀q∈O.cD,∀b∈q.2,nI b
 cur:∀x∈O.cur,x=0
 got:∀l∈O.got,l=[]
theorem awi:pI (gD vV)=some vV:=aet _ ax ⟨by simp[vV,bR],FZ,FZ,FZ,FZ,FZ,FZ,FZ⟩
theorem awj:pI (gD Be)=some Be:=aet _ ax ⟨by simp[Be,bR],F3,F3,F3,F3,F3,F3,F3⟩
theorem QB.rep{B}(h:QB B) k:iK B k=vV∨iK B k=vP:=by
 unfold iK
 cases hf:B.bI.find? λp=>decide (p.1=k)with
 | none=>exact .inr rfl
 | some p=>exact .inl (h.bI p (List.mem_of_find?_eq_some hf))
theorem QB.quiet{B}(h:QB B):gA B=B/\Ad B=vV/\∀k,tK B k=Be:=by
 have t:∀k∈dA B,k.asks=[]:=λk hk=>by unfold dA at hk;obtain⟨x,-,rfl⟩:=List.mem_map.1 hk;rcases h.rep x with e|e <;> rw[e] <;> rfl
 have j:lu B=[]:=by unfold lu;rw[h.tx,show jj []=[]from rfl];exact aeG B _ _ t
 refine⟨?_,?_,λk=>?_⟩
 ·have e:nR B=(B,[]):=by simp[nR,yK,j,h.waits,oH]
  unfold gA;rw[e];split
  ·rw[<- h.waits]
  ·rfl
 ·simp[Ad,j,h.st.l,h.st.p,h.ref,IX,vV]
 ·rcases h.rep k with e|e <;> simp[tK,e,pE,h.st.l,h.st.p,h.waits,vP,vV,Be,yJ,AO,tW,tV]
theorem QB.outs{B}(h:QB B):∀x∈ua (gA B),nI x.2:=by
 obtain⟨t,u,y⟩:=h.quiet;have key:∀k m,(m=vV∨m=Be)->∀x∈tZ k m,nI x.2:=λk m hm x j=>by
  unfold tZ at j;split at j
  ·rw[List.mem_singleton]at j;subst j;exact hm.imp (λe=>FM) λe=>FM
  ·cases j
 intro x j;rw[t,ua,Co]at j;rcases j with j|j
 ·unfold sS at j;split at j
  ·cases j
  ·exact key _ _ (.inl u) x j
 ·unfold sU at j;obtain⟨k,-,j⟩:=List.mem_flatMap.1 j;exact key _ _ (.inr (y k)) x j
theorem QB.handle{B}(h:QB B) j{b}(hb:nI b):QB (gX B j b).1:=by
 have A:∀m,m=vV->QB (gA { B with bI:=mw B.bI j m }):=λm hm=>by
  have t:QB { B with bI:=mw B.bI j m }:=⟨h.st,h.tx,λp hp=>by
   unfold mw at hp;split at hp
   ·obtain⟨x,y,rfl⟩:=List.mem_map.1 hp;split
    ·exact hm
    ·exact h.bI x y
   ·rw[Co,List.mem_singleton]at hp;exact hp.elim (h.bI p) λe=>by rw[e];exact hm,h.told,h.ref,h.waits⟩
  rw[t.quiet.1];exact t
 have u:qh B Be=B:=by
  have e:rq B []=(B,[]):=by simp[rq,lY,sY,nJ]
  show sR B []=B;unfold sR;rw[e,<- h.ref]
 unfold gX;split
 ·rcases hb with rfl|rfl
  ·rw[awi];dsimp only;split
   ·exact A _ rfl
   ·split
    ·next h9=>simp[vV]at h9
    ·exact h
  ·rw[awj];dsimp only;split
   ·next h9=>simp[Be]at h9
   ·split
    ·rw[u];exact h
    ·exact h
 ·exact h
section
variable {O:bz} {par ai:List Int} {k:Nat}
theorem QO.set(h:QO O) n{x:Hw}(t:∀B,x.up=some B->QB B)(u:x.up=none->QS (Ff x.dk)):QO (nv O n x):=by
 refine⟨λi y j=>?_,h.cD,h.cur,h.got⟩;simp only[nv,List.getElem?_set]at j;split at j
 ·split at j
  ·injection j with j;subst j;exact⟨t,u⟩
  ·cases j
 ·exact h.eC i y j
theorem QO.put(h:QO O) n{B}(j:QB B):QO (rF O n B):=h.set n (λB' e=>by injection e with e;exact e▸j) λe=>by cases e
theorem QO.X6(h:QO O){L:List iV}(j:∀q∈L,∀b∈q.2,nI b):QO { O with cD:=L }:=⟨h.eC,j,h.cur,h.got⟩
theorem QO.up(h:QO O){n B}(j:cZ O n=some B):QB B:=by obtain⟨m,-,-,x,t,e⟩:=Ck j;exact (h.eC m x t).1 B e
theorem L7{L:List iV}{k l}(h:∀q∈L,∀b∈q.2,nI b)(t:∀b∈l,nI b):∀q∈iE L k l,∀b∈q.2,nI b:=λq j=>by
 unfold iE at j;obtain⟨p,hp,rfl⟩:=List.mem_map.1 j;split
 ·exact t
 ·exact h p hp
theorem axL{L:List iV}{k b}(h:∀q∈L,∀b∈q.2,nI b)(hb:nI b):∀q∈ud L k b,∀b∈q.2,nI b:=by
 unfold ud;split
 ·next l hl =>
  split
  ·exact L7 h λx j=>(List.mem_append.1 j).elim (h _ (yC hl) x) λe=>by rw[List.mem_singleton]at e;rw[e];exact hb
  ·exact h
 ·exact h
theorem ajp n:∀(l:List (Int×List UInt8)) {L:List iV},(∀q∈L,∀b∈q.2,nI b)->(∀x∈l,nI x.2)->∀q∈l.foldl (λL m=>ud L (n,m.1) m.2) L,∀b∈q.2,nI b
 | [],_,h,_=>h
 | x :: l,_,h,hl=>ajp n l (axL h (hl x (List.mem_cons_self ..))) λy j=>hl y (List.mem_cons_of_mem _ j)
theorem QO.tick(h:QO O) n:QO (oJ O n).1:=by
 unfold oJ;split
 ·split
  ·exact h
  ·next B hu =>
   have j:=h.up hu;have hp:=h.put n j;rw[j.quiet.1];exact hp.X6 (ajp n _ h.cD (by have:=j.outs;rwa [j.quiet.1]at this))
 ·exact h
theorem QO.D6(h:QO O) a b:QO (mV O a b).1:=by
 unfold mV;split
 ·exact h
 ·exact h
 ·next m l hl =>
  have t:=h.cD _ (yC hl);have j:QO { O with cD:=iE O.cD (a,b) l }:=h.X6 (L7 h.cD λx u=>t x (List.mem_cons_of_mem _ u));dsimp only;split
  ·exact j
  ·next B hu=>exact j.put b ((j.up hu).handle a (t m (List.mem_cons_self ..)))
theorem QO.drain a b:∀(j:Nat) {O:bz},QO O->QO (Cj a b j O)
 | 0,_,h=>h
 | j+1,_,h=>QO.drain a b j (h.D6 a b)
theorem QO.LY n:∀(l:List Nat) {O:bz},QO O->QO (l.foldl (λO (t:Nat)=>if t=n then O else Cj n t (nT O n t) O) O)
 | [],_,h=>h
 | t :: l,_,h=>QO.LY n l (by dsimp only;split;exact h;exact QO.drain _ _ _ h)
theorem QO.turns:∀(l:List Nat) {O:bz},QO O->QO (l.foldl vF O)
 | [],_,h=>h
 | t :: l,_,h=>QO.turns l (by unfold vF;split;exact QO.LY t _ (h.tick t);exact h)
theorem QO.round(h:QO O):QO (sP O):=QO.turns _ h
theorem QO.I3(h:QO O)(j:bM par ai O k) n:QO (tU O n).1:=by
 unfold tU;split
 ·split
  ·exact h
  ·next B hu=>exact h.set n (λ_ e=>Ai) λ_=>by rw[F6 (j.up hu).1.dk];exact (h.up hu).st
 ·exact h
theorem QO.IM(h:QO O)(u:bM par ai O k) n:QO (tL O n).1:=by
 unfold tL;split
 ·next hi =>
  split
  ·exact h
  ·next hu =>
   obtain⟨m,rfl,hm,d,s,t,-⟩:=u.down hi (by simpa using hu);have j:=(h.eC m _ t).2 rfl;unfold qi;rw[Int.toNat_natCast,t];dsimp only[Option.map_some,Option.getD_some];split
   ·exact h.put _ ⟨⟨j.l,j.p,j.a⟩,rfl,λp hp=>(by cases hp),rfl,rfl,rfl⟩
   ·exact h
 ·exact h
theorem QO.keep(h:QO O) c a{f:List eo->List eo×Int}(t:(f []).2≠0):QO (ia O c a f).1:=by
 unfold ia tF ue;split
 ·exact h
 ·split
  ·split
   ·exact h
   ·next B hu =>
    have j:=h.up hu;have e:dR B (f B.aA)=(B,(f []).2):=by unfold dR;rw[j.tx,if_neg t]
    simp only[e];exact h.put _ j
  ·exact h
theorem QO.Gv(h:QO O) c:QO (lT O c).1:=by
 unfold lT;split
 ·split
  ·exact h
  ·next B hu =>
   have t:(O.cur[c.toNat]?).getD 0=0:=by
    cases j:O.cur[c.toNat]? with
    | none=>rfl
    | some x=>exact h.cur x (List.mem_of_getElem? j)
   have e:mE B c 0=([],0,(mE B c 0).2.2):=by unfold mE;rw[(h.up hu).st.l];split <;> rfl
   rw[t];generalize u:(mE B c 0).2.2=q at e;simp only[e];split
   ·exact⟨h.eC,h.cD,λx j=>(List.mem_or_eq_of_mem_set j).elim (h.cur x) id,h.got⟩
   ·exact h
 ·exact h
theorem QO.YX(h:QO O){f:List iV->Int×Int->List iV×Int}(j:∀L k,(∀q∈L,∀b∈q.2,nI b)->∀q∈(f L k).1,∀b∈q.2,nI b) a b:QO (nz O f a b).1:=h.X6 (j _ _ h.cD)
theorem axM L k(h:∀q∈L,∀b∈q.2,nI b):∀q∈(pG L k).1,∀b∈q.2,nI b:=by
 unfold pG;split
 ·exact h
 ·exact h
 ·next m l hl=>exact L7 h λx j=>h _ (yC hl) x (List.mem_cons_of_mem _ j)
theorem axN L k(h:∀q∈L,∀b∈q.2,nI b):∀q∈(rZ L k).1,∀b∈q.2,nI b:=by
 unfold rZ;split
 ·exact h
 ·exact h
 ·next m l hl=>exact L7 h λx j=>h _ (yC hl) x (by simp at j⊢;exact j.symm)
theorem awk L k(h:∀q∈L,∀b∈q.2,nI b):∀q∈(rV L k).1,∀b∈q.2,nI b:=by
 unfold rV;split
 ·exact h
 ·exact h
 ·next m l hl =>
  split
  ·exact h
  ·exact L7 h λx j=>h _ (yC hl) x (by simp at j⊢;grind)
theorem QO.new:QO (rG par ai 60000):=by
 refine⟨λn x t=>?_,λq j=>?_,LN,LN⟩
 ·simp only[rG,List.getElem?_map,Option.map_eq_some_iff]at t;obtain⟨m,-,rfl⟩:=t;exact⟨λB e=>by injection e with e;subst e;exact⟨⟨rfl,rfl,rfl⟩,rfl,λp hp=>(by cases hp),rfl,rfl,rfl⟩,λe=>Ai⟩
 ·have j:q∈F4 par:=j;rw[UL par _ q j];intro b hb;cases hb
theorem QO.state(h:QO O) n:QS (my O n)/\Eo O n=0:=by
 have j:QS (my O n):=by
  unfold my;split
  ·next hi =>
   split
   ·next B hu=>exact (h.up hu).st
   ·next hu =>
    cases hx:O.eC[n.toNat]? with
    | none=>exact⟨rfl,rfl,rfl⟩
    | some x => refine (h.eC _ x hx).2 ?_;unfold cZ at hu;rw[hi,hx]at hu;simpa using hu
  ·exact⟨rfl,rfl,rfl⟩
 refine⟨j,?_⟩
 unfold Eo
 rw[j.p]
 cases hu:cZ O n with
 | none=>rfl
 | some B=>simp[(h.up hu).tx,(h.up hu).waits]
end
section
open Go Go.RowKit Go.ChangeShapes Go.WideShapes Go.ChangeAt
structure AR where
 kind:Int
 a:Int
 b:Int
 e:List cM
 f:List cX
def ML(c:AR):Prop:=bR c.kind/\bR c.a/\bR c.b/\(∀a∈c.e,lU a)/\(∀t∈c.f,iB t)
abbrev Fm(c:AR)(ve vf:Value):Array Value:=#[.int .i64 c.kind,.int .i64 c.a,.int .i64 c.b,ve,vf]
def TK:dV AR where
 size:=5
 rel c cs w:=∃j vf,cs=(Fm c j vf).toList/\iy c.e j w/\eI c.f vf w
 len:=by rintro _ _ _⟨j,vf,rfl,_⟩;rfl
 one:=by rintro x _ _⟨j,vf,rfl,⟨_,_,rfl,_⟩,⟨_,_,rfl,_⟩⟩ u hu;exact VG
 st:=by rintro _ _ _ _⟨j,vf,rfl,t,y⟩ k;exact⟨j,vf,rfl,mY _ _ _ _ t k,eu _ _ _ _ y k⟩
def aea(w:World)(v:Value):Prop:=∃l,aq TK l v w/\∀c∈l,ML c
section
variable {H:Type} {enc:TypeId×Value->H} {w:World} {base:Nat} {r:Reach} {b0:Nat} {spare:Nat->Bool} {held:Bool} {v:Value} {d:DataW H} {p:List MemPlace}
theorem awl{L:Nat}{cs:List Value}{x:DataW H×List MemPlace}(h:DataW.trod enc prog w base spare held L 55 cs=some x):∃c:AR,TK.rel c cs w/\ML c:=by
 obtain⟨xs,n,_,_,E,J,j⟩:=DataW.trod_struct underlying55 h
 have S:prog.cellsOf 55=5:=fo
 rw[S]at E
 have Q:prog.cellsOf 3=1:=fo
 have O:prog.cellsOf 51=1:=fo
 have N:prog.cellsOf 53=1:=fo
 have:xs.length=5:=J
 match cs,E with
 | [c0,c1,c2,c3,c4],_ => have u:=j 0 _ rfl;have t:=j 1 _ rfl;have y:=j 2 _ rfl;have A:=j 3 _ rfl;have B:=j 4 _ rfl;simp[Q,O,N]at u t y A B;rw[List.getElem?_eq_getElem af]at u t y A B;obtain⟨k,C,R⟩:=Po u;obtain⟨c,I,wc⟩:=Po t;obtain⟨m,G,V⟩:=Po y;obtain⟨e,⟨v,D,W⟩,M⟩:=auW A;obtain⟨vf,f,F,U,T⟩:=auX B;simp at C I G D F;subst C I G D F;exact⟨⟨k,c,m,e,f⟩,⟨_,_,rfl,W,U⟩,R,wc,V,M,T⟩
theorem apP(t:Value.okWide prog w r b0 49 v)(h:DataW.Trod enc prog w base spare held 49 v d p):aea w v:=by obtain⟨A,n,c,rfl⟩:=okWide_slice underlying49 t;obtain⟨C,u⟩:=h;obtain⟨v,l,e,B,j⟩:=asM underlying49 TK ML fo ax (λ_ _ _ _ y=>awl y) u;simp[Value.cells]at e;subst e;exact⟨l,B,j⟩
end
def LQ(c:AR):Bool:=xy c.e&&yT c.f
def QU(c:AR):Bool:=c.kind==9||c.kind==13||c.kind==14
theorem ao0(c:AR) A vf w(C:iy c.e A w)(B:eI c.f vf w) :
 Calls prog 22 #[.agg (Fm c A vf)] w λe w'=>e=.returned (.bool (LQ c))/\K w w':=by
 have H:Hid (LQ c=(xy c.e&&yT c.f)):=ae rfl
 have y:=ae λW (k:K w W)=>awO (mY _ _ _ _ C k)
 have u:=ae λW (k:K w W)=>avn (eu _ _ _ _ B k)
 obtain⟨F,E,rfl,-⟩:=C
 obtain⟨J,D,rfl,-⟩:=B
 have j:=ah.new w 55 (Fm c (.slice F c.e.length E) (.slice J c.f.length D))
 have k1:=j.aS
 generalize LQ c=R at *
 go_in
 go_upto_region 1 with fail
 generalize w.alloc _=t at *
 generalize w.heap.size=L at j⊢
 have:=j.cells t (K.rf _)
 go_wp2_with fail
 refine (y.aa t k1).mono ?_
 rintro e I⟨rfl,rfl⟩
 go_wp2_with fail
 refine (u.aa t k1).mono ?_
 rintro e I⟨rfl,rfl⟩
 generalize xy c.e=G at *
 generalize yT c.f=M at *
 clear y u
 have hR:=H.aa
 cases G
 ·exact QV
 ·exact QV
theorem ao1(c:AR) D ne C E y A w :
 Calls prog 21 #[.agg (Fm c (.slice D ne C) (.slice E y A))] w λe w'=>e=.returned (.bool (QU c))/\K w w':=by
 obtain⟨z,u,t,H,F⟩:=c
 have j:Hid (QU ⟨z,u,t,H,F⟩=(z==9||z==13||z==14)):=ae rfl
 have hA:Fm ⟨z,u,t,H,F⟩ (.slice D ne C) (.slice E y A)=#[.int .i64 z,.int .i64 u,.int .i64 t,.slice D ne C,.slice E y A]:=rfl
 rw[hA]
 have G:=ah.new w 55 #[.int .i64 z,.int .i64 u,.int .i64 t,.slice D ne C,.slice E y A]
 have k1:=G.aS
 generalize QU ⟨z,u,t,H,F⟩=R at *
 clear hA
 go_in
 go_upto_region 1 with fail
 generalize w.alloc _=I at *
 generalize w.heap.size=J at G⊢
 have:=G.cells I (K.rf _)
 by_cases h9:z=9
 ·subst h9;have hR:R=true:=j.aa;clear j;exact QV
 have h9:(z==9)=false:=by simpa using h9
 by_cases B:z=13
 ·subst B;have hR:R=true:=j.aa;clear j;exact QV
 have B:(z==13)=false:=by simpa using B
 have hR:=ae (show R=(z==14) by rw[j.aa,h9,B];rfl)
 clear j
 generalize hz:(z==14)=q at *
 go_wp2
 go_ret
 exact⟨by rw[hR.aa];rfl,k1⟩
end
def oR(O:bz)(z a b:Int)(e:List cM)(i:aT):bz×Int :=
 if z=1 then oJ O a else
 if z=2 then mV O a b else
 if z=3 then nz O pG a b else
 if z=4 then nz O rV a b else
 if z=5 then nz O rZ a b else
 if z=6 then tU O a else
 if z=7 then tL O a else
 if z=8 then (sP O,0)else
 if z=10 then ((ia O a i λl=>ie l i e).1,(ia O a i λl=>ie l i e).2.2)else
 if z=11 then ((ia O a i λl=>iH l i).1,(ia O a i λl=>iH l i).2.2)else
 if z=12 then ((ia O a i λl=>iW l i).1,(ia O a i λl=>iW l i).2.2)else
 if z=15 then ((lT O a).1,(lT O a).2.2)else
 (O,0)
theorem nH.late{par ai gw O k j Z w W W'}(h:nH par ai gw O k Z W W')(hk:k<=j)(u:K w W):nH par ai gw O j Z w W':=by obtain⟨⟨y,H,own,t,A,C⟩,B⟩:=h;exact⟨⟨y.mono hk,H,own,t,A,C⟩,(ag.aU u _).tr B⟩
theorem aq0{par ai gw O k Z W}(h:eJ par ai gw O k Z W)(hp:par.length<=6)(hk:k+588<=40000)(c:AR) E vf(J:ML c)(y:iy c.e E W)(Q:eI c.f vf W)(N:c.e.length<=1000000)(i:aT)(F:dJ i) :
 Calls prog 23 #[.pointer (some ⟨gw,0,none⟩),.agg (Fm c E vf),cA i] W λe w'=>e=.returned (.int .i64 (oR O c.kind c.a c.b c.e i).2)/\nH par ai gw (oR O c.kind c.a c.b c.e i).1 (k+588) Z W w':=by
 obtain⟨z,a,b,e,f⟩:=c
 obtain⟨u,c1,rfl⟩:∃A c,E=.slice A e.length c:=by obtain⟨A,c,rfl,-⟩:=y;exact⟨A,c,rfl⟩
 obtain⟨B,c2,rfl⟩:∃A c,vf=.slice A f.length c:=by obtain⟨A,c,rfl,-⟩:=Q;exact⟨A,c,rfl⟩
 have M:Hid (oR O z a b e i=oR O z a b e i):=ae rfl
 generalize D:oR O z a b e i=R at M⊢
 have j:=ae D
 have G:=K.kK W (.cells #[.int .i64 z,.int .i64 a,.int .i64 b,.slice u e.length c1,.slice B f.length c2] 55) (.cells (dh i) 26)
 have I:=(ah.new W 55 #[.int .i64 z,.int .i64 a,.int .i64 b,.slice u e.length c1,.slice B f.length c2]).alloc (.cells (dh i) 26)
 have H:=ah.new (W.alloc (.cells #[.int .i64 z,.int .i64 a,.int .i64 b,.slice u e.length c1,.slice B f.length c2] 55)) 26 (dh i)
 go_in
 go_upto_region 1 with fail
 rw[show (W.alloc (.cells #[.int .i64 z,.int .i64 a,.int .i64 b,.slice u e.length c1,.slice B f.length c2] 55)).heap.size=W.heap.size+1 by simp]at H
 generalize (W.alloc _).alloc _=W1 at *
 generalize W.heap.size=g1 at I H⊢
 have t:=h.st G
 have y:=mY _ _ _ _ y G
 have:=I.cells W1 (K.rf _)
 have:=H.cells W1 (K.rf _)
 have HF:=ae λR k' w' (hQ:nH par ai gw R k' Z W1 w') (hk':k'<=k+588)=>hQ.late hk' G
 by_cases hz:z=1
 ·subst hz;obtain rfl:oJ O a=R:=j.aa;have C:=ae (t.tick af a);exact yD
 replace j:Hid (oR O z a b e i=R):=j
 have:(z==1)=false:=xe
 by_cases hz:z=2
 ·subst hz;obtain rfl:mV O a b=R:=j.aa;have C:=ae (t.D6 af a b);exact yD
 replace j:Hid (oR O z a b e i=R):=j
 have:(z==2)=false:=xe
 by_cases hz:z=3
 ·subst hz;obtain rfl:nz O pG a b=R:=j.aa;have C:=ae (t.drop a b);exact yD
 replace j:Hid (oR O z a b e i=R):=j
 have:(z==3)=false:=xe
 by_cases hz:z=4
 ·subst hz;obtain rfl:nz O rV a b=R:=j.aa;have C:=ae (t.twice a b);exact yD
 replace j:Hid (oR O z a b e i=R):=j
 have:(z==4)=false:=xe
 by_cases hz:z=5
 ·subst hz;obtain rfl:nz O rZ a b=R:=j.aa;have C:=ae (t.turn a b);exact yD
 replace j:Hid (oR O z a b e i=R):=j
 have:(z==5)=false:=xe
 by_cases hz:z=6
 ·subst hz;obtain rfl:tU O a=R:=j.aa;have C:=ae (t.I3 a b J.2.2.1);exact yD
 replace j:Hid (oR O z a b e i=R):=j
 have:(z==6)=false:=xe
 by_cases hz:z=7
 ·subst hz;obtain rfl:tL O a=R:=j.aa;have C:=ae (t.IM af a);exact yD
 replace j:Hid (oR O z a b e i=R):=j
 have:(z==7)=false:=xe
 by_cases hz:z=8
 ·subst hz;obtain rfl:(sP O,0)=R:=j.aa;have C:=ae (t.round hp hk);exact yD
 replace j:Hid (oR O z a b e i=R):=j
 have:(z==8)=false:=xe
 by_cases hz:z=10
 ·subst hz;obtain rfl:((ia O a i λl=>ie l i e).1,(ia O a i λl=>ie l i e).2.2)=R:=j.aa;have C:=ae (t.FX a F y N J.2.2.2.1);exact yD
 replace j:Hid (oR O z a b e i=R):=j
 have:(z==10)=false:=xe
 by_cases hz:z=11
 ·subst hz;obtain rfl:((ia O a i λl=>iH l i).1,(ia O a i λl=>iH l i).2.2)=R:=j.aa;have C:=ae (t.F5 a F);exact yD
 replace j:Hid (oR O z a b e i=R):=j
 have:(z==11)=false:=xe
 by_cases hz:z=12
 ·subst hz;obtain rfl:((ia O a i λl=>iW l i).1,(ia O a i λl=>iW l i).2.2)=R:=j.aa;have C:=ae (t.abort a F);exact yD
 replace j:Hid (oR O z a b e i=R):=j
 have:(z==12)=false:=xe
 by_cases hz:z=15
 ·subst hz;obtain rfl:((lT O a).1,(lT O a).2.2)=R:=j.aa;have C:=ae (t.Gv af a);go_wp2_with fail
  refine C.aa.mono ?_;rintro e w2⟨⟨v,rfl,L⟩,hQ⟩;obtain⟨A3,c3,rfl⟩:=av L;exact ajq
 replace j:Hid (oR O z a b e i=R):=j
 have:(z==15)=false:=xe
 have D:R=(O,0):=by rw[<- j.aa];unfold oR;simp only[beq_eq_false_iff_ne]at *;simp[*]
 subst D
 have hE:=ae (HF.aa O k W1 ⟨t,ag.rf _ _⟩ af)
 go_wp2
 go_ret
 exact⟨rfl,hE.aa⟩
def yN(par ai:List Int):Bool:=decide (par.length<=6)&&decide (ai.length<=8)&&fK par&&kN par ai
theorem aj7:ir (dc (cR cV))<=60000:=by decide +kernel
theorem aup{par ai}(j:par.length<=6)(t:ai.length<=8):yN par ai=(pL par ai 60000==0):=by unfold yN pL;rw[if_pos aj7];cases fK par <;> cases kN par ai <;> simp[j,t]
theorem apQ par ai j u w(h1:aq cL par j w)(h2:aq cL ai u w) :
 Calls prog 9 #[j,u] w λe w'=>e=.returned (.bool (yN par ai))/\K w w':=by
 have kk:=K.rf w
 by_cases h6:par.length<=6
 case neg =>
  have hg:yN par ai=false:=by unfold yN;simp[h6]
  have B:6<(par.length:Int):=af;exact ajr
 have B:¬6<(par.length:Int):=af
 by_cases h8:ai.length<=8
 case neg =>
  have hg:yN par ai=false:=by unfold yN;simp[h8]
  have A:8<(ai.length:Int):=af;exact ajr
 have A:¬8<(ai.length:Int):=af
 have C:=ae (ab7 par ai 60000 j u w h1 h2 af af af)
 have y:=ae (aup h6 h8)
 have D:Hid (∀e w',vU par ai 60000 w e w'->if pL par ai 60000=0 then ∃H own,e=.returned (.tuple #[.pointer (some ⟨H.gw,0,none⟩),.int .i64 0])/\bn H own (rG par ai 60000) w' cK/\(∀k,k<w.heap.size->own k=0)/\K w w' else e=.returned (.tuple #[.pointer none,.int .i64 (pL par ai 60000)])/\K w w'):=ae λ_ _ h=>h
 generalize vU par ai 60000 w=G at *
 generalize pL par ai 60000=F at *
 generalize yN par ai=R at *
 obtain⟨A1,c1,rfl⟩:=av h1
 obtain⟨A2,c2,rfl⟩:=av h2
 go_in
 go_wp2_with fail
 refine C.aa.mono ?_
 intro e I hp
 replace hp:=D.aa _ _ hp
 split at hp
 ·next hx =>
  subst hx;obtain⟨H,own,rfl,-,-,t⟩:=hp;obtain rfl:R=true:=y.aa;go_wp2;go_ret;exact⟨rfl,t⟩
 ·next hx =>
  obtain⟨rfl,t⟩:=hp;have E:R=false:=by rw[y.aa];simpa using hx
  subst E;go_wp2;go_ret;exact⟨rfl,t⟩
def tA:List cX:=[(⟨#[112]⟩,8,0,0,⟨#[]⟩)]
def eA:List cM:=[(⟨#[112]⟩,1,5,⟨#[]⟩)]
def aw0:bz:=rG [-1,0] [1] 10000
def Oy:bz×aT×Int:=y9 aw0 0 1 tA
def Oz:bz×aT×Int:=uZ Oy.1 0
def OA:bz×Unit×Int:=ia Oz.1 0 (1,1,2) λl=>ie l (1,1,2) eA
def OB:bz×Unit×Int:=ia OA.1 0 (1,1,2) λl=>iH l (1,1,2)
def aw5:bz:=sP OB.1
def aw6:bz:=sP aw5
def aw7:bz:=sP aw6
def DG:bz×List (List cM)×Int:=lT aw7 0
def OC:bz×Int:=tU DG.1 1
def OD:bz×aT×Int:=uZ OC.1 0
def OE:bz×Int:=tL OD.1 1
def qQ:bz×List (List cM)×Int:=lT OE.1 0
theorem XI:(decide (Oy.2=((1,1,1),0)/\Oz.2=((1,1,2),0)/\OA.2.2=0/\OB.2.2=0/\DG.2.1.length=1/\DG.2.2=0/\D4 DG.1 0 (1,1,2)=(3,0)/\OC.2=0) &&
 decide (OD.2=((0,0,0),210)/\OE.2=0/\qQ.2.1.length=0/\qQ.2.2=0/\D7 qQ.1 0=2/\(xA qQ.1 0).length=1/\(my qQ.1 0).list.length=2/\Eo qQ.1 1=0/\(cZ qQ.1 1).isSome=true) &&
 qQ.1.got.all (λl=>l.all λb=>decide (b.length<=1000)&&b.all λe=>decide (e.length<=1000)))=true:=ajs
theorem ayM:∀l∈qQ.1.got,∀b∈l,b.length<=1000000/\∀e∈b,e.length<=1000000:=λl t b hb=>by have h:=XI;rw[dz]at h;have h9:=(List.all_eq_true.1 ((List.all_eq_true.1 h.2) l t)) b hb;rw[dz]at h9;exact⟨bo (of_decide_eq_true h9.1) ax,λe j=>bo (of_decide_eq_true ((List.all_eq_true.1 h9.2) e j)) ax⟩
theorem EE:Oy.2=((1,1,1),0)/\Oz.2=((1,1,2),0)/\OA.2.2=0/\OB.2.2=0/\DG.2.1.length=1/\DG.2.2=0/\D4 DG.1 0 (1,1,2)=(3,0)/\OC.2=0:=by
 have h:=XI
 grind
theorem Cz:OD.2=((0,0,0),210)/\OE.2=0/\qQ.2.1.length=0/\qQ.2.2=0/\D7 qQ.1 0=2/\(xA qQ.1 0).length=1/\(my qQ.1 0).list.length=2/\Eo qQ.1 1=0/\(cZ qQ.1 1).isSome=true:=by
 have h:=XI
 grind
theorem ast n w:Calls prog 39 #[.int .i64 n] w λe w'=>e=.returned (.agg #[.int .i64 1,.int .i64 n,.string ⟨#[]⟩])/\K w w':=by have j:=ah.new w 71 #[.int .i64 0,.int .i64 0,.string ⟨#[]⟩];have y:=j.aS;go_in;go_upto_region 1 with fail;generalize w.alloc _=t at *;generalize hg:w.heap.size=g at j⊢;have HG:=ae hg;clear hg;have q:=j.cell;have z:=j.frozen;go_wp2;have A:ah (World.setCell (World.setCell (World.setCell t _ _) _ _) _ _) g 71 #[.int .i64 1,.int .i64 n,.string ⟨#[]⟩]:=((j.aP 0 (.int .i64 1)).aP 1 (.int .i64 n)).aP 2 (.string ⟨#[]⟩);have B:=K.set (K.set (K.set y (r:=g) QA 0 (.int .i64 1)) (r:=g) QA 1 (.int .i64 n)) (r:=g) QA 2 (.string ⟨#[]⟩);clear q z;generalize World.setCell (World.setCell (World.setCell t _ _) _ _) _ _=C at *;have u:=A.cell;refine bodyPost_ret (v:=.agg #[.int .i64 1,.int .i64 n,.string ⟨#[]⟩]) (by simp[results,results39,go_sem,u]) rfl ?_;exact⟨rfl,B⟩
theorem aeL{w:World} l T{M}(y:∀k,M k->k<w.heap.size):Fx M (λW=>aq cL l (.slice (some ⟨w.heap.size,0,none⟩) l.length l.length) W) (w.alloc (.cells (l.map λn=>Value.int .i64 n).toArray T)):=by
 intro W u;have hb:=(ah.new w T (l.map λn=>Value.int .i64 n).toArray).aX u λh=>aB
 refine⟨_,_,rfl,⟨l.map AX,Fw _ _,by grind [UW,cL],λ_=>⟨_,0,rfl,hb.lt,λj u t=>?_⟩⟩,aD _⟩;rw[UW]at t;rw[mz,hb.cell j,List.getElem?_toArray];exact t
theorem axO(w:World) t T:eI [t] (.slice (some ⟨w.heap.size,0,none⟩) 1 1) (w.alloc (.cells (fq t).toArray T)) :=
 ⟨_,_,rfl,by simpa using (Reads.new w (fq t) T 5 1 rfl).more (by simp)⟩
theorem axP(w:World) t T:iy [t] (.slice (some ⟨w.heap.size,0,none⟩) 1 1) (w.alloc (.cells (kJ t).toArray T)) :=
 ⟨_,_,rfl,by simpa using (Reads.new w (kJ t) T 4 1 rfl).more (by simp)⟩
theorem ah.z{Z:Nat->Prop}{W W' g t cs}(h:ah W g t cs)(u:ag (λk=>¬Z k) W W')(hz:Z g):ah W' g t cs:=h.aX u λhn=>hn hz
