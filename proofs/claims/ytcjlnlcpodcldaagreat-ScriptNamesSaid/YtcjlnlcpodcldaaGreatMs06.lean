/-
  The overlay's clients (layer 21): Poll. Conditions: none.
-/
import Derived.Test.YtcjlnlcpodcldaaGreatMs05
import Derived.Test.YtcjlnlcpodcldaaGreatMsz
set_option maxRecDepth 100000
set_option maxHeartbeats 16000000
set_option linter.all false
namespace Go.Proofs.YtcjlnlcpodcldaaGreat
open Go Go.RowKit _root_.Go.Proofs.Tryz
open List renaming length→Q
open _root_.Array renaming size→Z
open Go.World renaming heap→D,alloc→aU,setCell→aV
open Go.Value renaming ownBlock→aW
open Go.Value renaming int→G,slice→F,pointer→aj,bool→ar,tuple→au,agg→av,string→aw
open Go.IntKind renaming i64→J,u64→E
open Option renaming none→U,some→I
open Go.Ending renaming returned→ak
open Go.Obj renaming cells→aq
open Go.World renaming setCell→ax,alloc→ay
open Bool renaming false→az,true→aA
open And renaming intro→aB
open List renaming lookup→aC,getElem?_eq_getElem→aE,getElem?_eq_some_iff→aF
open _root_.Array renaming getElem?_toList→aD,getElem?_eq_some_iff→aG
open Nat renaming le_succ→aH
open Or renaming inl→aI,inr→aJ
open Go renaming Calls→aK,execOp→aL,bodyPost_ret→aM,World→aP,Value→aQ
open Go.RowKit renaming Below→aN,intOf→aO
theorem afu c:∀(l:List bW) (s:List nB) (n:Nat),(∀x∈l,fX x)->Q (pq c l s n).1<=1000000/\∀e∈(pq c l s n).1,Q e<=1000000
 | [],_,_,_=>⟨by simp[pq],by simp[pq]⟩
 | x :: r,s,n,h=>by
  unfold pq;split
  ·exact afu c r _ _ λy hy=>h y Kn
  ·have t:=h x bq;have z:∀e∈rN s c x,e∈x.es:=λe j=>by
    unfold rN at j;split at j
    ·exact (List.mem_filter.1 j).1
    ·simp at j
   have A:Q (rN s c x)<=Q x.es:=by
    unfold rN;split
    ·exact ni _ _
    ·simp
   exact⟨cI A t.2.1,λe j=>t.2.2 e (z e j)⟩
theorem afv{B}(t:cX B) c j:Q (nu B c j).1<=1000000/\∀e∈(nu B c j).1,Q e<=1000000:=by
 unfold nu;split
 ·split
  ·exact afu c _ _ _ λx y=>t.FY.1 x (List.mem_of_mem_drop y)
  ·simp
 ·simp
theorem aCW:(prog.info? 43).map (λi=>(i.zero,i.size,i.bytes))=I (I (F U 0 0),1,24):=by kernel_rfl
theorem TEE:ir prog 78 43 (F U 0 0) 1 24:=⟨underlying78,aCW,rfl,bC⟩
section
variable {S:Nat->Prop} {W W2:aP} {H:nf} {own:Nat->Nat} {O:cP} {par bj:List Int} {k:Nat}
theorem cM.aEX(h:cM H own O W eB)(L:pY O) c :
 (∃d:Int,(d != 0)=aA/\nW H O c=(aj U,d)/\jE O c=(O,[],d)) ∨
 ∃(m:Nat) (B:cJ) (gd g n:Nat),c=(m:Int)/\m<Q O.bj/\eF O (n:Int)=I B/\nW H O c=(aj (I ⟨g,0,U⟩),0)/\(∀y,K W y->eS (λk=>own k≠0/\own k≠2*n+4) (λk=>own k≠2*n+4/\k<Z (D y)) g gd B y) /\
  jE O c=(if (nu B c ((O.cur[m]?).getD 0)).2.2=0 then ({ O with cur:=O.cur.set m (nu B c ((O.cur[m]?).getD 0)).2.1,got:=if (nu B c ((O.cur[m]?).getD 0)).1=[]then O.got else O.got.modify m λg=>g++[(nu B c ((O.cur[m]?).getD 0)).1] },(nu B c ((O.cur[m]?).getD 0)).1,0)else (O,[],(nu B c ((O.cur[m]?).getD 0)).2.2)):=by
 rcases h.abF L c with ⟨d,A,z,C,t⟩|⟨n,B,gd,g,A,z,C,t,j,h6,h7,h8,h9⟩
 ·refine aI ⟨d,A,z,?_⟩;have j:=C (α:=List (List dW)) [] λB=>(B,[],0)
  unfold tF at j;unfold jE;cases hc:mO O c
  ·simp[hc]at j⊢;exact j
  ·cases hu:eF O (oH O c)with
   | none=>simp[hc,hu]at j⊢;exact j
   | some B=>rw[hc,hu]at t;simp at t
 ·obtain⟨m,rfl,hm⟩:=af4 h7;refine aJ ⟨m,B,gd,g,n,rfl,hm,t,j,h8,?_⟩;unfold jE;rw[bT h7,h6];simp only[t,Int.toNat_natCast]
theorem cM.aEY(h:cM H own O W S)(N:S 2){m}(hm:m<Q O.got):∃b cap v,H.vg=F (I ⟨b,0,U⟩) (Q O.got) cap/\own b=2/\H.vs[m]?=I v/\v.oneCell'=aA/\∀W',bf (λk=>own k≠2) W W'->W'.cell? ⟨b,0+m,U⟩=I v:=by
 obtain⟨X,a2,a3,a4,t,⟨b1,b2,b3,y⟩,V,a8⟩:=h.gW N;obtain⟨b,cap,e⟩:=t.abE (W:=W) aZ;have C:=y b Ex;have B:m<Q H.vs:=aZ;have key:∀W',bf (λk=>own k≠2) W W'->W'.cell? ⟨b,0+m,U⟩=I H.vs[m]/\H.vs[m].oneCell'=true:=λW' u=>by have T:=(t.to u (λ_ _=>trivial) (λk hk e=>e (y k hk)) (Y':=λ_=>True) λ_ _ _=>aI trivial).bw;obtain⟨A,c,z,R,-⟩:=T;rw[e]at z;injection z with e1 e2 e3;subst e1;obtain⟨b',Y,cs,j,-,M,L,-⟩:=eN R m B bC;injection j with j;injection j with j e5;subst j e5;obtain⟨rfl,h9⟩:=M W' (K.rf W');have:=L W' (K.rf W');simp only[show AE.size=1 from rfl,Nat.mul_one]at this;exact⟨this,h9⟩
 exact⟨b,cap,H.vs[m],by rw[e,V],C,aE B,(key W (bf.rf _ _)).2,λW' u=>(key W' u).1⟩
def OvM(H:nf)(own:Nat->Nat)(z:cP)(w:aP)(j:Nat)(w':aP):Prop :=
 (Z (D w))<=j/\j<=Z (D w')/\∃y t,cM y t z w' eB/\y.gw=H.gw/\bf (λk=>2<=own k) w w'/\∀k,k<j->t k=own k
theorem ew.m{H own j w w'}(h:ew H own j w w'):OvM H own j w (Z (D w)) w':=by obtain⟨C,z,A,y,t,B⟩:=h;exact⟨bL _,t.size,C,z,A,y,t,B⟩
theorem atS(h:cM H own O W eB)(hI:dh par bj O k)(hk:k<=40000) c :
 aK prog 28 #[aj (I ⟨H.gw,0,U⟩),G J c] W λe w'=>∃v mid,e=ak (au #[v,G J (jE O c).2.2])/\Fx (λk=>k<Z (D W)∨mid<=k) (λW=>bw dS (jE O c).2.1 v W) w'/\OvM H own (jE O c).1 W mid w':=by
 have hs:=hI.iK
 have C1:=aY (ME h p2 pB hs c)
 rcases h.aEX hs c with ⟨d,hne,T,hp⟩|⟨m,B,gd,g,n,rfl,hm,hu,T,hL,hp⟩
 ·have HR:=aY hp;have HK:=aY λL (y:K W L)=>h.now y
  rw[T]at C1;generalize jE O c=R at *;clear h hI hp T hs;go_in;go_wp2_with fail
  apply bN C1.aX;intro L y;have HF:=aY (HK.aX L y);clear C1 y HK;exact ami
 obtain⟨hG,G7,-⟩:=hI.up hu
 have gG:=afv hG.tocX (m:Int) ((O.cur[m]?).getD 0)
 have qF:=aY gG
 have HP:=aY hp
 rw[T]at C1
 have HH:=aY λL (y:K W L)=>h.st y
 have HLv:=aY hL
 have UZ:=aY hI.gl
 have hmc:m<Q O.cur:=aah
 have Qr:m<Q O.got:=by have:=hs.lg;omega
 have:(m:Int)<Q O.cur:=aZ
 have HVB:Hid ((∀v,H.vs[m]?=I v->∀b,aW v=I b->b<Z (D W))/\∀b,aW H.vg=I b->b<Z (D W)):=aY ⟨λv T b hb=>by
  obtain⟨v0,h1,h2,-⟩:=h.got m O.got[m] (show eB (2*m+5) by unfold eB;omega) (aE Qr);rw[T]at h1;injection h1 with h1;subst h1;exact (h2.blk b hb).2,λb hb=>((h.gW p2).got.blk b hb).2⟩
 obtain⟨bc,aJR,aJS,ec,oc,hbc,-⟩:=h.aoG p2 hmc 0
 have zy:∀W',K W W'->W'.cell? ⟨bc,m,U⟩=I (G J ((O.cur[m]?).getD 0)):=by obtain⟨b9,o9,c9,j,h9⟩:=h.aoF p2 hs hm;rw[ec]at j;injection j with j;injection j with j;injection j with e1 e2;subst e1 e2;exact λW' k=>by simpa using h9 W' k
 generalize jE O (m:Int)=R at *
 generalize hx:(O.cur[m]?).getD 0=x at *
 have q:=(h.gW p2).blk.cells
 rw[ec]at q
 clear hI hp T hs hG G7 hu gG hL
 go_in
 go_wp2_with fail
 apply bN C1.aX
 intro L y
 have C3:=aY (aDx (HLv.aX L y) (m:Int) x)
 clear C1 HLv
 go_wp2_with fail
 refine C3.aX.mono ?_
 rintro e z⟨v3,rfl,dH,k3⟩
 obtain⟨A3,c3,rfl,-⟩:=dH.slice
 generalize nu B (m:Int) x=r at *
 obtain⟨t,bh,code⟩:=r
 have kR:=y.tr k3
 have h3:=HH.aX z kR
 by_cases hc:code=0
 ·subst hc;have HR:Hid (R=({ O with cur:=O.cur.set m bh,got:=if t=[]then O.got else O.got.modify m λg=>g++[t] },t,0)):=aY ZJ;obtain⟨b9,aJT,aJU,j,ob9,cN,M⟩:=h3.aoG p2 hmc bh;rw[ec]at j;injection j with j;injection j with j;injection j with j;subst j;have q3:=q z kR;have qc3:=zy z kR;have z3:=cN.frozen;have H4:=aY M;have HO3:=aY dH;have dt:=cQ hbc.lt y.size;have u4:bf (λk=>k=bc) z (aV z ⟨bc,m,U⟩ (G J bh)):=bf.dc (X:=λk=>k=bc) rfl m _;have xD:=aY (show bf (λk=>2<=own k) W (aV z ⟨bc,m,U⟩ (G J bh))from (bf.bS kR _).tr (u4.more λk e=>by rw[e,oc];exact bL 2));have Je:=aY (dH.up (w':=z.setCell ⟨bc,m,U⟩ (G J bh)) (bL _) (bV.set dt m _));have GG:=aY (show Z (D W)<=Z (D L)from y.size);clear C3 q zy y k3 kR h3 M dH cN h hbc HH HP u4;go_upto_region 8 with fail;generalize z.setCell _ _=C at *;by_cases he:t=[]
  ·subst he;have HF:=aY (show ew H own { O with cur:=O.cur.set m bh } W C from ⟨H,own,H4.aX,rfl,xD.aX,λ_ _=>rfl⟩);have h9:¬(0:Int)<0:=aZ;clear xD H4 q3 qc3 z3;go_wp2;go_ret2;exact⟨_,ib,_,by rw[HR.aX];exact λ_ _=>⟨_,_,rfl,Ym _ _ _,eO _⟩,by rw[HR.aX];exact HF.aX.m⟩
  ·have:(0:Int)<(Q t:Int):=by have:=List.length_pos_iff.2 he;omega
   have M:=H4.aX;obtain⟨bg,aJV,v,eg,og,hvs,h1c,hcg⟩:=M.aEY p2 Qr;obtain⟨l,hl⟩:∃l,O.got[m]?=I l:=⟨_,aE Qr⟩;obtain⟨v',hv',hO,V0⟩:=M.got m l (show eB (2*m+5) by unfold eB;omega) hl;rw[hvs]at hv';injection hv' with hv';subst hv';have:=cI (UZ.aX l (List.mem_of_getElem? hl)) hk;have hrow:=hO.blk;have hq:∀W,oI v C W->∀i,W.cell? ⟨H.gw,i,U⟩=#[H.vp,H.vh,H.vn,H.vd,.map (I H.gb),H.vc,H.vg][i]?:=λW u=>((M.gW p2).blk.cA u λe=>by have:=V0 _ e;have:=(M.gW p2).own.1;omega).cell
   have uJ:∀W,oI v C W->W.cell? ⟨bg,m,U⟩=I v:=λW u=>by simpa using hcg W (u.more λk e=>by have:=V0 k e;omega)
   rw[eg]at hq;have aoH:(m:Int)<Q O.got:=aZ;have VL:=aY λW (u:oI v C W)=>asY t _ W ((Je.aX.up (bL _) (u.uE λk h1 h2 _ e=>amj)).bw) qF.aX.1 qF.aX.2
   clear q3 qc3 z3 M hcg HO3;go_wp2_with fail
   have qs:=aB hq (aB uJ aoH);refine FB 16 15 l v t 78 TEE [([],[]),([0],[(46,0)]),([1],[(47,1)]),([2],[(48,2)]),([],[]),([],[]),([5],[(51,5)]),([6],[(52,6)]),([7],[(53,7)]),([],[]),([8,9],[(54,8),(55,9)]),([10],[(56,10)]),([],[]),([12],[(58,12)]),([13],[(59,13)]),([11,14],[(57,11),(60,14)]),([0,1,2,3,4,5,6,7,8,9,10,11,12,13,14,15],[(49,3),(50,4)]),([0,1,2,3,4,5,6,7,8,9,10,11,12,13,14,15,16],[(62,16),(61,15)])] 64 hO (eO _) aZ ?_;iterate 13 refine bA.i ?_
   refine bA.c (λu W=>∃A c,u=F A (Q t) c/\Fx (λk=>k<Z (D C)) (λW=>bw dS t u W) W) (λ_ _ _ ⟨A,c,e,h⟩ k=>⟨A,c,e,h.up (bf.gy (X:=λb=>aW v=I b) k λ_ h=>h) λb hb=>(hrow b hb).2⟩) (λW u=>(VL.aX W u).mono λe w5 ⟨v5,e1,h5,k5⟩=>⟨v5,e1,(by
    obtain⟨A,c,e5,-⟩:=h5.slice;exact⟨A,c,e5,h5.PA λk hk=>cQ hk u.size⟩),k5⟩) ?_
   refine bA.Gg (S:=aaT dS) (N:=λk=>own k≠0∨aW v=I k) (Z (D C)) TEE t (λ_ h=>h.size) (λb hb=>⟨aJ hb,(hrow b hb).2⟩) (λV W Y hp=>?_) ?_
   ·simp only[dE,bU,bZ,dA,dB,bM]at hp;obtain⟨⟨A,c,e,hF⟩,-⟩:=hp;show vX _ _ _ (V 13) _;refine⟨Ex,λW' u=>⟨V 13,Ex,hF W' (u.more λk hk=>hk.elim (H4.aX.lo k) λhk=>(hrow k hk).2)⟩⟩
   refine bA.s ?_;clear qs;refine⟨λ_ _=>trivial,λV W Y hp=>?_,λV X9 Y cR sE hA=>?_⟩
   ·exact Km
   simp only[bU,bZ,dx,bM,Nat.reduceAdd]at hA;obtain⟨A9,c9,uT⟩:=cR.slice;obtain⟨b9,Cl,cr9,j,o9,cN,aEZ,h5,oP⟩:=H4.aX.aEU p2 (show eB (2*m+5) by unfold eB;omega) hl hvs Y cR sE;rw[eg]at j;injection j with j;injection j with j;injection j with j;subst j;have hq9:=uJ X9 Y;have uT:V 15=F A9 (Q l+1) c9:=by simpa using uT
   have hA:=aB hA uT;have qs:=aB hq9 (aB cN.frozen (aB Qr aoH));refine bJ.p ?_;refine bJ.s ?_;refine bJ.h ?_;rw[uT]at h5;have hsz:bg<Z (D L):=by have:=HVB.aX.2 bg (by rw[eg];rfl);have:=GG.aX;omega
   have u9:bf (λk=>aW v=I k∨k=bg) C (X9.setCell ⟨bg,m,U⟩ (F A9 (Q l+1) c9)):=(Y.more λk e=>aI e).tr ((bf.dc (X:=λk=>k=bg) rfl m _).more λk e=>aJ e);have HE:=aY ((Je.aX.tR.fx λ_ h=>h).to (N:=λk=>k<Z (D W)∨Z (D C)<=k) u9 (λk hk=>hk.elim (λe=>amj) λe=>aZ) λk h1 h2=>by have:=GG.aX;omega);have eG:(if t=[]then O.got else O.got.modify m λg=>g++[t])=O.got.set m (l++[t]):=by
    rw[bO he];refine List.ext_getElem? λi=>?_
    rw[List.getElem?_modify,List.getElem?_set];by_cases hi:m=i
    ·subst hi;simp[Qr];exact (aF.1 hl).2
    ·simp[hi]
   rw[eG]at HR;have HF:=aY (show OvM H own { O with cur:=O.cur.set m bh,got:=O.got.set m (l++[t]) } W (Z (D C)) (X9.setCell ⟨bg,m,U⟩ (F A9 (Q l+1) c9))from ⟨xD.aX.size,u9.size,_,aEZ,h5,rfl,(xD.aX.tr (Y.more λk e=>by have:=V0 k e;omega)).tr (bf.dc (X:=λk=>2<=own k) (by rw[og];exact bL 2) m _),oP⟩);clear u9 hA qs hq9 cN h5 oP cR sE Y hq uJ hO V0 hrow uT VL Je xD H4 HVB UZ hsz;generalize X9.setCell _ _=W9 at *;go_wp2;go_ret2;exact⟨_,ib,_,by rw[HR.aX];exact HE.aX,Kt⟩
 ·have hne:(code != 0)=true:=Ev;have HR:Hid (R=(O,[],code)):=aY (by rw[HP.aX];exact bO hc);have HF:=aY (show ew H own O W z from ew.k kR (h3.now (K.rf z)));clear C3 q zy y k3 kR h3 dH h hbc HH HP;exact ami
end
section
variable {S:Nat->Prop} {W W2:aP} {H:nf} {own:Nat->Nat} {O:cP} {par bj:List Int} {k:Nat}
theorem amk{w W' g s vl vp va cs}(hb:bn W' g 61 cs)(t:cs.size=4)(hg:Z (D w)<=g)(k:K w W')(j:nF (λk=>k<Z (D w)∨k=g) s vl vp va W') :
 (∀i,((((aV W' ⟨g,0,U⟩ (G E s.life)).setCell ⟨g,1,U⟩ vl).setCell ⟨g,2,U⟩ vp).setCell ⟨g,3,U⟩ va).cell? ⟨g,i,U⟩=#[G E s.life,vl,vp,va][i]?) /\
  nF (λk=>k<Z (D w)) s vl vp va ((((aV W' ⟨g,0,U⟩ (G E s.life)).setCell ⟨g,1,U⟩ vl).setCell ⟨g,2,U⟩ vp).setCell ⟨g,3,U⟩ va)/\K w ((((aV W' ⟨g,0,U⟩ (G E s.life)).setCell ⟨g,1,U⟩ vl).setCell ⟨g,2,U⟩ vp).setCell ⟨g,3,U⟩ va) :=
 ⟨(Cy (us:=[G E s.life,vl,vp,va]) hb (by rw[t];rfl)).cell,Fx.to j (bf.sets (X:=λk=>k=g) rfl [G E s.life,vl,vp,va] 0 W') (λ_ h=>aJ h) (λ_ _ h=>aI h),K.sets hg [G E s.life,vl,vp,va] 0 W' k⟩
theorem aAj{d s}(j:jl d s):vN (d.gQ.map dw)=(s,0):=by
 have:=ahq d.gQ (λr t=>⟨(j.gQ r t).1,(j.gQ r t).2.1⟩) eP s j.run
 unfold vN
 grind
theorem agY{d s}(hG:jl d s):∀b∈d.gQ.map dw,jw b=true:=ajP
theorem cM.stt(h:cM H own O W S)(h2:S 2)(z:∀n,S (2*n+4))(y:dh par bj O k) n(L:mq O n=aA) :
 (∃g gd X N B,eF O n=I B/\eA H.bu n=I (aj (I ⟨g,0,U⟩))/\oC O n=B.st/\∀W',K W W'->eS X N g gd B W') ∨
 ∃i gd vh d s,n=((i:Nat):Int)/\eF O n=U/\H.ds[i]?=I gd/\eA H.bu n=U/\oC O n=s/\jl d s/\∀W',K W W'->Lz gd vh d W':=by
 cases hu:eF O n with
 | some B => obtain⟨i,rfl,P,x,hx1,hx2⟩:=EG hu;obtain⟨gd,g,t,T,M⟩:=h.up (z i) y.iK.ln hu;exact aI ⟨g,gd,_,_,B,rfl,T,by grind [oC],λW' j=>M.st j⟩
 | none => obtain⟨i,rfl,P,d,s,C,Y,-⟩:=y.down L hu;obtain⟨gd,t,-,R⟩:=h.brk i _ (z i) C;obtain⟨A,vh,V,-⟩:=R rfl;exact aJ ⟨i,gd,vh,d,s,rfl,rfl,t,A,by grind [oC,KJ],Y,λW' j=>V.st j⟩
theorem aeG(h:cM H own O W S)(A:S 2)(hS:∀n,S (2*n+4))(hI:dh par bj O k) n :
 aK prog 19 #[aj (I ⟨H.gw,0,U⟩),G J n] W λe w'=>∃vl vp va,e=ak (av (dY (oC O n) vl vp va))/\nF (λk=>k<Z (D W)) (oC O n) vl vp va w'/\K W w':=by
 have z:=bn.new W 61 #[G E 0,F U 0 0,F U 0 0,F U 0 0]
 have k1:=z.cC
 have y:=aY (MS (h.st k1) A n)
 have q:=(h.gW A).blk.cells
 cases hi:mq O n
 ·have HR:Hid (oC O n=eP):=aY (by unfold oC;rw[hi];rfl);generalize oC O n=R at *;rw[hi]at y;have HF:=aY (show nF (λk=>k<Z (D W)) eP (F U 0 0) (F U 0 0) (F U 0 0) (aU W (aq #[G E 0,F U 0 0,F U 0 0,F U 0 0] 61))/\K W (aU W (aq #[G E 0,F U 0 0,F U 0 0,F U 0 0] 61))from
   ⟨λW' _=>⟨(bK.nil (λ_=>True) 0 128 cF W').bw,(bK.nil (λ_=>True) 0 128 cF W').bw,(bK.nil (λ_=>True) 0 42 dJ W').bw⟩,k1⟩)
  have qr:=z.cell;have zr:=z.frozen;clear h hI hi A hS q k1;go_in;go_wp2_with fail
  apply bN y.aX;rintro w' rfl;clear y z;go_wp2;refine aM (v:=av #[G E 0,F U 0 0,F U 0 0,F U 0 0]) (by simp[results,results19,go_sem,qr]) rfl ?_;exact⟨_,_,_,ib,by rw[HR.aX];exact HF.aX.1,HF.aX.2⟩
 rw[hi]at y
 have ql:=h.q A
 rcases h.stt A hS hI n hi with ⟨g,gd,X,aS,B,hu,N,T,hL⟩|⟨i,gd,vh,d,s,rfl,hu,hd,N,T,hG,hD⟩
 ·have V:=aY (aCR (hL _ k1));have C:=(ql _ k1 n).1;rw[N]at C;simp only[Option.getD_some,Option.isSome_some]at C;have q1:=q _ k1;rw[T];generalize B.st=R at *;have HQ:=aY λt (j:K (aU W (aq #[G E 0,F U 0 0,F U 0 0,F U 0 0] 61)) t) vl vp va (hF:nF _ R vl vp va t)=>amk (w:=W) (z.bF j) rfl (bL _) (k1.tr j) (Fx.less hF λk hk=>(show k<Z (D (aU W (aq #[G E 0,F U 0 0,F U 0 0,F U 0 0] 61))) by simp;omega))
  clear h hI hi A hS q k1 hL hu N T ql;go_in;go_wp2_with fail
  apply bN y.aX;rintro w' rfl;go_wp2_with fail
  refine V.aX.mono ?_;rintro e t⟨vl,vp,va,rfl,Jy,j⟩;have HP:=aY (HQ.aX t j vl vp va Jy);obtain⟨⟨A1,c1,rfl⟩,⟨A2,c2,rfl⟩,A3,c3,rfl⟩:=Jy.sl;have fP:=z.bF j;have qr:=fP.cell;have zr:=fP.frozen;clear y V HQ Jy j z fP C q1;go_wp2;obtain⟨e9,M,L⟩:=HP.aX;refine aM (v:=av #[G E R.life,F A1 (Q R.list) c1,F A2 (Q R.prom) c2,F A3 (Q R.ab) c3]) aml rfl ?_;exact⟨_,_,_,rfl,M,L⟩
 ·have C:=(ql _ k1 (i:Int)).1;rw[N]at C;simp only[Option.getD_none,Option.isSome_none]at C;obtain⟨b,off,c,Fy,hnl,JO⟩:=h.KV hd;have Cp:(i:Int)<Q H.ds:=aZ;rw[Fy]at q;have q1:=q _ k1;rw[T];have HD:=aY hD;have HDC:=aY λW' (k:K W W')=>JO W' (bf.bS k _)
  have HQ0:=aY q;have hfit:=hG.fit;have hroom:=hG.room;have dt:Q (kT d)=jQ d.gQ:=Q5 d.gQ;have hlen:Q (kT d)<=1048576:=aZ;have aoI:=aY hlen;have HG:=aY hG;have hN:∀w,aK prog 38 #[G J 1048576] w λe w'=>e=ak (au #[aj (I ⟨Z (D w),0,U⟩),G J 0])/\ja (Z (D w)) (F U 0 0) [] 0 1048576 w'/\K w w':=λw=>ajB 1048576 w (bL _)
  have C2:=aY hN;have HR0:=aY z;clear h hI hi A hS q hu N T ql hd JO Fy hD hG hfit hroom dt hlen hN;go_in;go_wp2_with fail
  apply bN y.aX;rintro w' rfl;go_wp2_with fail
  refine (C2.aX _).mono ?_;rintro e t⟨rfl,uZ,j⟩;have Y:=k1.tr j;have q3:=HQ0.aX t Y;have aE0:=HDC.aX t Y;have V:=aY (ae5 _ _ _ _ _ t (HD.aX t Y));have HDN:=aY uZ;have GN:Z (D (aU W (aq #[G E 0,F U 0 0,F U 0 0,F U 0 0] 61)))=Z (D W)+1:=bq;generalize hgd:Z (D (aU W (aq #[G E 0,F U 0 0,F U 0 0,F U 0 0] 61)))=gn at *;have Jh:=aY Y;have Ad:=aY (HR0.aX.bF j);have HGN:=aY GN;clear y C2 C q1 uZ j Y hgd GN;go_wp2_with fail
  refine V.aX.mono ?_;rintro e w4⟨v4,rfl,ij,k4⟩;have hap:wi [] (kT d) 1048576=(kT d,0):=by have:=aoI.aX;unfold wi;rw[bT (by simpa using this)];rfl
  have hC4:=aex gn (F U 0 0) v4 [] (kT d) 0 1048576 w4 (HDN.aX.st k4) (gD ij) (by have:=aoI.aX;omega);rw[hap]at hC4;have C4:=aY hC4;obtain⟨A4,c4,rfl,-⟩:=gD ij;have HK4:=aY (Jh.aX.tr k4);have HR4:=aY (Ad.aX.bF k4);clear V ij hap hC4 k4 q3 aE0;go_wp2_with fail
  refine C4.aX.mono ?_;rintro e w5⟨vh5,rfl,hd5,GZ⟩;have hX5:∀k,mZ gn vh5 k->Z (D W)+1<=k:=λk hk=>by
   have h1:=HGN.aX;have A:=HK4.aX.size;have h3:=HR4.aX.lt;rcases GZ.new k hk with h|h
   ·rcases h with h|h
    ·omega
    ·cases h
   ·omega
  have C5:=aY (ae7 gn vh5 (d.gQ.map dw) 1048576 w5 hd5 (agY HG.aX));have u5:bf (λk=>Z (D W)+1<=k) w4 w5:=GZ.up.more λk hk=>by
   rcases hk with h|h
   ·have:=HGN.aX;omega
   ·cases h
  have PG:=aY (u5.k HK4.aX λk hk=>aZ);have HR5:=aY (HR4.aX.cA u5 λh=>aZ);have PH:=aY hX5;clear C4 hd5 GZ hX5 u5;go_wp2_with fail
  refine C5.aX.mono ?_;rintro e w6⟨gl,vr,rfl,iR,T3,mo,-,u6⟩;have u6':=u6.more PH.aX;have KQ:=HG.aX.cnt;have Mm:∀b∈d.gQ.map dw,Q b<=1000000000:=λb hb=>by have:=agY HG.aX b hb;simp[jw]at this;omega
  have C6:=aY (aes gl _ vr (d.gQ.map dw) w6 T3 mo.bw bG Mm);have HK6:=aY (u6'.k PG.aX λk hk=>aZ);have HR6:=aY (HR5.aX.cA u6' λh=>aZ);clear C5 T3 mo u6 u6' KQ Mm PH iR;go_wp2_with fail
  refine C6.aX.mono ?_;rintro e w7⟨v7,rfl,jh,k7⟩;have V1:=HG.aX.abD v7 w7 jh.bw;rw[aAj HG.aX]at V1;obtain⟨A7,c7,rfl⟩:=jh.slice;rw[List.length_map]at V1;have C7:=aY V1;have HK7:=aY (HK6.aX.tr k7);have HR7:=aY (HR6.aX.bF k7);clear C6 jh V1 k7;go_wp2_with fail
  refine C7.aX.mono ?_;rintro e w8⟨vl,vp,va,rfl,hF8,k8⟩;have eV:=(HR7.aX.bF k8).alloc (aq (dY s vl vp va) 61);have L:=(HK7.aX.tr k8).al (aq (dY s vl vp va) 61);have M:nF _ s vl vp va _:=Fx.k hF8 ((K.rf w8).al (aq (dY s vl vp va) 61));have Pa:=HR7.aX.lt;have HP:=aY (amk (w:=W) eV rfl (bL _) L (Fx.less M λk hk=>(show k<Z (D w7) by omega)));obtain⟨⟨A1,c1,rfl⟩,⟨A2,c2,rfl⟩,A3,c3,rfl⟩:=hF8.sl;have hn8:=bn.new w8 61 (dY s (F A1 (Q s.list) c1) (F A2 (Q s.prom) c2) (F A3 (Q s.ab) c3));have qn:=hn8.cell;have qr:=eV.cell;have zr:=eV.frozen;clear C7 hF8 k8 eV L M Pa hn8;go_wp2;obtain⟨e9,M,L⟩:=HP.aX;refine aM (v:=av #[G E s.life,F A1 (Q s.list) c1,F A2 (Q s.prom) c2,F A3 (Q s.ab) c3]) aml rfl ?_;exact⟨_,_,_,rfl,M,L⟩
end
section
variable {S:Nat->Prop} {W W2:aP} {H:nf} {own:Nat->Nat} {O:cP} {par bj:List Int} {k:Nat}
theorem aBK{X j g gd B}(h:eS X j g gd B W) :
 aK prog 192 #[aj (I ⟨g,0,U⟩)] W λe w'=>∃v',e=ak v'/\bw eC B.bH v' w'/\K W w':=by
 obtain⟨z,p,hb,hg,-⟩:=h
 obtain rfl:=kg hg
 exact (att hb z.tocX).mono λe w' ⟨v',t,y,k⟩=>⟨v',t,y.bw,k⟩
theorem aCX{X j g gd B}(h:eS X j g gd B W) :
 aK prog 193 #[aj (I ⟨g,0,U⟩)] W λe w'=>∃A c,e=ak (F A (Q B.waits) c)/\K W w':=by
 obtain⟨y,p,hb,hg,-⟩:=h
 obtain rfl:=kg hg
 exact (ase hb y.tocX).mono λe w' ⟨v',z,t,k⟩=>by
  obtain⟨A,c,rfl⟩:=t.slice
  grind
theorem af5 a b c d W:(Instr.field 61 (av #[a,b,c,d]) 2).run prog W=.ok c W:=by rfl
theorem awx(l:List fT)(j:Nat)(t:j<Q l):Q ((l.take (j+1)).filter (·.asked))=Q ((l.take j).filter (·.asked))+if l[j].asked then 1 else 0:=by rw[ix t,List.filter_append,eU,List.filter_cons];split <;> simp
theorem dh.prom(h:dh par bj O k) n:Q (oC O n).prom<=6:=by
 unfold oC;split
 ·next hi =>
  cases hu:eF O n with
  | some B=>exact (h.up hu).2.1.inv.prom
  | none =>
   obtain⟨i,rfl,-,d,s,t,j,-,-,hp⟩:=h.down hi hu
   grind [KJ]
 ·simp[eP]
theorem atT(h:cM H own O W S)(C:S 2)(hS:∀n,S (2*n+4))(A:dh par bj O k) n :
 aK prog 125 #[aj (I ⟨H.gw,0,U⟩),G J n] W λe w'=>e=ak (G J (Dk O n:Int))/\K W w':=by
 have C1:=aY (aeG h C hS A n)
 have M:=aY λW' (k:K W W')=>Rm (h.st k) C hS A.iK n
 have HB:Hid (Dk O n=Q (oC O n).prom+(match eF O n with|some B=>Q (B.bH.filter (·.asked))+Q B.waits|none=>0)):=aY rfl
 have q:=(h.gW C).blk.cells
 have ql:=h.q C
 have:=A.prom n
 generalize Dk O n=R at *
 generalize oC O n=s at *
 cases hu:eF O n with
 | none =>
  have HR:Hid (R=Q s.prom):=aY (by rw[HB.aX,hu];rfl);rw[hu]at M;go_in;go_wp2_with fail
  refine C1.aX.mono ?_;rintro e y⟨vl,vp,va,rfl,Y,k1⟩;obtain⟨-,⟨A2,c2,rfl⟩,-⟩:=Y.sl;have fp:=af5;have C2:=aY (M.aX y k1);go_wp2_with fail
  apply bN C2.aX;rintro w' rfl;exact pc
 | some B =>
  have HR:Hid (R=Q s.prom+(Q (B.bH.filter (·.asked))+Q B.waits)):=aY (by rw[HB.aX,hu]);obtain⟨i,rfl,hlt,x,hx1,hx2⟩:=EG hu;obtain⟨gd,g,e1,e2,hL⟩:=h.up (hS i) A.iK.ln hu;have Ld:=(A.up hu).1;have:=Ld.BB;have iO:=Ld.tx.zi;have HL:=aY λW' (k:K W W')=>hL.st k
  rw[hu]at M;have X:=λW' (k:K W W')=>(ql W' k i).2
  rw[e2]at X;simp only[Option.getD_some]at X;go_in;go_wp2_with fail
  refine C1.aX.mono ?_;rintro e y⟨vl,vp,va,rfl,Y,k1⟩;obtain⟨-,⟨A2,c2,rfl⟩,-⟩:=Y.sl;have fp:=af5;have C2:=aY (M.aX y k1);have C3:=aY (aBK (HL.aX y k1));have:=q y k1;have:=X y k1;have HK1:=aY k1;go_wp2_with fail
  apply bN C2.aX;rintro w' rfl;go_wp2_with fail
  apply dD C3.aX;rintro v3 w3⟨dH,k3⟩;obtain⟨A3,c3,rfl,p9,-⟩:=dH;have UD:=aY (HK1.aX.tr k3);have UT:=aY p9;go_wp2_with fail
  go_loopw [5,28] (fun b V Wj=>∃j:Nat,j<=Q B.bH/\V=G J j/\b=G J ((Q s.prom+Q ((B.bH.take j).filter (·.asked)):Nat):Int)/\K w3 Wj) (fun _ V _=>Q B.bH-(aO V).toNat)
  case atStart=>exact⟨0,eO _,rfl,bq,K.rf w3⟩
  case round =>
   obtain⟨j,hj,rfl,rfl,kr⟩:=hrel;by_cases hlt':j<Q B.bH
   ·have cd:(j:Int)<Q B.bH:=aZ;obtain⟨b1,off,cs0,rfl,-,hrl,N,d⟩:=eN UT.aX j hlt' bC;have T:=awx B.bH j hlt';have L:=aY T;obtain⟨vf,ve,rfl,⟨Af,cf,rfl,-⟩,⟨Ae,ce,rfl,-⟩⟩:=hrl wr kr;have KQ:Q ((B.bH.take j).filter (·.asked))<=1000000:=cI (ni _ _) amm;generalize B.bH[j]=t at *;have N:=N wr kr;have d:∀i,i<9->wr.cell? ⟨b1,off+j*9+i,U⟩=(jm t (F Af (Q t.e.f) cf) (F Ae (Q t.e.es) ce))[i]?:=λi hi=>(d wr kr i hi).trans aD
    have N:wr.cell? ⟨b1,off+j*9,U⟩=I (G J t.e.kind):=N;cases ha:t.asked
    ·have L:=aY (show Q ((B.bH.take (j+1)).filter (·.asked))=Q ((B.bH.take j).filter (·.asked)) by rw[T,ha];rfl);go_wp2;exact⟨⟨j+1,aZ,cU,by rw[L.aX],kr.al _⟩,NZ⟩
    ·have L:=aY (show Q ((B.bH.take (j+1)).filter (·.asked))=Q ((B.bH.take j).filter (·.asked))+1 by rw[T,ha];rfl);go_wp2;exact⟨⟨j+1,aZ,cU,by rw[L.aX];go_num,kr.al _⟩,NZ⟩
   ·have cd:¬(j:Int)<Q B.bH:=aZ;obtain rfl:j=Q B.bH:=aZ;rw[nN]at *;have C4:=aY (aCX (HL.aX wr (UD.aX.tr kr)));have KQ:Q (B.bH.filter (·.asked))<=1000000:=cI (ni _ _) iO;have HKr:=aY (UD.aX.tr kr);go_wp2_with fail
    refine C4.aX.mono ?_;rintro e w9⟨A9,c9,rfl,k9⟩;have k99:=HKr.aX.tr k9;go_wp2;go_ret;refine⟨?_,k99⟩;rw[HR.aX];exact congrArg (λz:Int=>ak (G J z)) aZ
end
theorem aCY{X j g gd B W}(h:eS X j g gd B W)(A:mT B)(C:Q B.told<=800000) :
 aK prog 103 #[aj (I ⟨g,0,U⟩)] W λe w'=>∃v',e=ak v'/\eS X j g gd (iX B) w'/\bf (λk=>¬j k) W w'/\Fx X (λW=>bw Dt (xd (iX B)) v' W) w':=by
 obtain⟨t,p,hb,hg,hz⟩:=h
 obtain rfl:=kg hg
 refine (auW hb t.tocX A C).mono ?_
 rintro e w'⟨v',p',rfl,H,z,L,M,y⟩
 have h6:=eS.n hz hg t.work ⟨p',H,z,L,M⟩
 exact⟨v',rfl,h6.1,h6.2,y.less λ_ h=>aI (aI h)⟩
theorem ayj{B}(j:cX B):Q (xd B)<=17:=by
 have:=agQ B
 have:=Xu B (rR B)
 have:=J6 B.par B.me
 have:=(ud j.tr).2
 unfold xd
 grind [xd,rR]
section
variable {S:Nat->Prop} {W W2:aP} {H:nf} {own:Nat->Nat} {O:cP} {par bj:List Int} {k:Nat}
theorem cM.take(h:cM H own O W eB) a b:∃t,H.vn=aj (I ⟨t,0,U⟩)/\aK prog 105 #[aj (I ⟨t,0,U⟩),G J a,G J b] W λe w'=>∃v j,e=ak (au #[v,G J j]) /\
 ((j != 0)=aA/\nJ O a b=(O,j)/\ew H own O W w'∨∃m l,j=0/\nI O.dR (a,b)=I (m :: l)/\Q m<=1000000000/\sl m v w'/\cM H own { O with dR:=jV O.dR (a,b) l } w' eB/\bf (λk=>own k=3) W w'):=by
 obtain⟨t,hv,A⟩:=h.dR (show eB 3 by grind [eB])
 refine⟨t,hv,(afs A).mono ?_⟩
 rintro e w'⟨v,j,rfl,u,⟨y,rfl,h2⟩|⟨y,rfl,h2⟩|⟨m,l,y,rfl,h2,z,B⟩⟩
 ·exact amn
 ·exact amn
 ·exact⟨v,_,rfl,aJ ⟨m,l,rfl,y,z,B.now,h.KU hv h2 u,u⟩⟩
theorem aer(h:cM H own O W eB)(hI:dh par bj O k)(hk:k<=40000) a b :
 aK prog 61 #[aj (I ⟨H.gw,0,U⟩),G J a,G J b] W λe w'=>e=ak (G J (nJ O a b).2)/\ew H own (nJ O a b).1 W w':=by
 obtain⟨gn,hv,hC⟩:=h.take a b
 have C1:=aY hC
 have q:=(h.gW p2).blk.cell
 rw[hv]at q
 have N:=aY hI
 have HR:Hid (nJ O a b=nJ O a b):=aY rfl
 generalize hr:nJ O a b=R at HR⊢
 have HE:=aY hr
 go_in
 go_wp2_with fail
 refine C1.aX.mono ?_
 rintro e z⟨v,code,rfl,⟨hne,j,T⟩|⟨m,l,rfl,X,yq,Y,y,u1⟩⟩
 ·have t:=aY (aB j T);go_wp2;go_ret;obtain⟨j,T⟩:=t.aX;rw[<- HE.aX,j];exact⟨rfl,T⟩
 ·have L:dh par bj { O with dR:=jV O.dR (a,b) l } k:=by have h0:=N.aX.few _ (FT X);simp only[fY]at h0;exact N.aX.dR (Nc _ _ _) (Nd N.aX.few aZ)
  have j:nJ O a b=(match eF { O with dR:=jV O.dR (a,b) l } b with|none=>({ O with dR:=jV O.dR (a,b) l },210)|some B=>(rZ { O with dR:=jV O.dR (a,b) l } b (jr B a m).1,(jr B a m).2)):=by unfold nJ;rw[X];rfl
  rw[HE.aX]at j;have HU:=aY (show bf (λk=>2<=own k) W z from u1.more λk e=>aZ);generalize { O with dR:=jV O.dR (a,b) l }=P at *;have q:=(y.gW p2).blk.cell;have C:=(y.q p2 z (K.rf z) b).1;obtain⟨A,c,rfl,-⟩:=id Y;cases hu:eF P b with
  | none => rw[y.down p2 pB L.iK.ln hu]at C;simp only[Option.getD_none,Option.isSome_none]at C;rw[hu]at j;have t:=aY (aB j (ew.tr HU.aX rfl (λ_ _=>rfl) (y.now (K.rf z))));go_wp2;go_ret;rw[t.aX.1];exact⟨rfl,t.aX.2⟩
  | some B =>
   obtain⟨n,rfl,hlt,x,hx1,hx2⟩:=EG hu;obtain⟨gd,g,e1,e2,hL⟩:=y.up (pB n) L.iK.ln hu;obtain⟨hG,G7,-⟩:=L.up hu;have:=G7.told;have C3:=aY (aBI hL G7.fit aZ a m _ Y yq);rw[e2]at C;simp only[Option.getD_some,Option.isSome_some]at C;rw[hu]at j;simp only at j;have HP:=aY λV (S:eS _ _ g gd (jr B a m).1 V) M=>ew.tr HU.aX rfl (λ_ _=>rfl) (y.aoD bG e1 e2 S M)
   have HD:=aY j;generalize jr B a m=hb at *;go_wp2_with fail
   apply bN C3.aX;rintro V⟨S,M⟩;have t:=aY (HP.aX V S M);go_wp2;go_ret;rw[HD.aX];exact⟨rfl,t.aX⟩
def Gd(O:cP)(n:Int)(l:List (Int×List UInt8)):cP:={ O with dR:=l.foldl (λL m=>xg L (n,m.1) m.2) O.dR }
theorem awy O n l x:Gd O n (l++[x])={ Gd O n l with dR:=xg (Gd O n l).dR (n,x.1) x.2 }:=by
 grind [Gd]
theorem aeX(h:cM H own O W eB)(C:dh par bj O k)(hk:k<=40000) n :
 aK prog 60 #[aj (I ⟨H.gw,0,U⟩),G J n] W λe w'=>e=ak (G J (pw O n).2)/\ew H own (pw O n).1 W w':=by
 have C1:=aY (MS h p2 n)
 have HR:Hid (pw O n=if mq O n then (match eF O n with|none=>(O,(210:Int))|some B=>(Gd (rZ O n (iX B)) n (xd (iX B)),0))else (O,1)):=aY rfl
 have HN:=aY (h.now (K.rf W))
 generalize pw O n=R at *
 cases M:mq O n
 ·rw[M]at C1 HR;have q:=(h.gW p2).blk.cell;exact S7
 rw[M]at C1 HR
 have q:=(h.gW p2).blk.cell
 have N:=(h.q p2 W (K.rf W) n).1
 cases hu:eF O n with
 | none => rw[h.down p2 pB C.iK.ln hu]at N;simp only[Option.getD_none,Option.isSome_none]at N;rw[hu]at HR;exact S7
 | some B =>
  obtain⟨i,rfl,hlt,x,hx1,hx2⟩:=EG hu;obtain⟨gd,g,e1,e2,hL⟩:=h.up (pB i) C.iK.ln hu;obtain⟨Y,G7,-⟩:=C.up hu;have iO:=G7.told;have C3:=aY (aCY hL G7.fit aZ);have G1:=ayj (MP Y.tocX);have HS:=aY (auZ (MP Y.tocX) (Rx Y.tocX G7.fit));rw[e2]at N;simp only[Option.getD_some,Option.isSome_some]at N;rw[hu]at HR;have HP:=aY λw2 (wj:eS _ _ g gd (iX B) w2) u2=>h.put (by have:=C.iK.ln;omega) e1 e2 wj u2
  have yC:=aY h.lo;simp only[if_true]at HR;generalize ia:rZ O (i:Int) (iX B)=O1 at *;generalize xd (iX B)=outs at *;generalize iX B=WB at *;go_in;go_wp2_with fail
  apply bN C1.aX;rintro w' rfl;go_wp2_with fail
  refine C3.aX.mono ?_;rintro e t⟨v',rfl,hL1,z,hF⟩;have h1:=HP.aX t hL1 z;obtain⟨Ao,co,rfl⟩:=bD hF.now;have HX:=aY (show bf (λk=>2<=own k) w' t from ⟨z.os,z.tape,z.output,z.size,λk h1 h2=>z.block k h1 λhx=>h2 aZ⟩);have T:=aY (show (∀k,k<Z (D w')->kP own (2*i+4) w' t k=own k)/\∀k,kP own (2*i+4) w' t k=3->own k=3 from ⟨λk hk=>Ih,λk hk=>by
   unfold kP at hk;split at hk
   ·split at hk <;> omega
   ·exact hk⟩)
  have HF:=aY hF;have HH1:=aY h1;have u10:=bf.rf (λk=>kP own (2*i+4) w' t k=3) t;have aE1:=aY u10;generalize kP own (2*i+4) w' t=L at *;go_wp2_with fail
  go_loopw [27] (fun jv Wj=>∃j:Nat,j<=Q outs/\jv=G J j/\Hid (cM H L (Gd O1 i (outs.take j)) Wj eB)/\Hid (bf (fun k=>L k=3) t Wj)) (fun jv _=>Q outs-(aO jv).toNat)
  case atStart=>exact⟨0,aZ,rfl,by simpa [Gd]using HH1,aE1⟩
  case round =>
   obtain⟨j,hj,rfl,HJ,HU⟩:=hrel;by_cases hlt':j<Q outs
   ·have cd:(j:Int)<Q outs:=aZ;have y:=HJ.aX;obtain⟨gn,hv,Mr⟩:=y.dR (show eB 3 by unfold eB;decide);have p9:=(HF.aX.up HU.aX λk e=>by have:=T.aX.2 k e;constructor <;> omega).now;obtain⟨A9,c9,e9,aE2,-⟩:=p9;injection e9 with e9a e9b e9c;subst e9a e9c;obtain⟨b1,off,cs0,iV,-,hrl,d0,d⟩:=eN aE2 j hlt' bC;subst iV;have gG:=HS.aX _ (dG hlt');have Lb:outs.take (j+1)=outs.take j++[outs[j]]:=bq;generalize outs[j]=x at *;obtain⟨S,bs⟩:=x;obtain⟨u,hcs,mc⟩:=hrl wr (K.rf wr);subst hcs;obtain⟨Au,cu,rfl⟩:∃A c,u=F A (Q bs) c:=mc.imp λ_ h=>h.imp λ_ h=>h.1
    have HK:=aY Lb;have HV:=aY hv;have q:=(y.gW p2).blk.cells;rw[hv]at q;have fS:=bn.new wr 193 #[G J S,F Au (Q bs) cu];have kA:=fS.cC;have kB:=λW (k:K (aU wr (aq #[G J S,F Au (Q bs) cu] 193)) W)=>kA.tr k
    have qb:=fS.cells;have q2:=λW k=>q W (kB W k)
    have Gx:=aY (aB y mc);have d:∀i,i<2->wr.cell? ⟨b1,off+j*2+i,U⟩=#[G J S,F Au (Q bs) cu][i]?:=λi M=>(d wr (K.rf wr) i M).trans aD
    have d0:wr.cell? ⟨b1,off+j*2,U⟩=I (G J S):=d0 wr (K.rf wr);have KA:=aY kA;go_wp2_with fail
    generalize wr.alloc _=w2 at *;have qs:=aB q2 qb;refine eQ 9 ?_;iterate 9 refine bA.i ?_
    intro V W3 kW hA;simp only[bU,bZ,dx,bM,Nat.reduceAdd]at hA;refine bJ.call _ _ rfl (by simp[bP,aC,cK,hA,aL,bR,go_sem];exact⟨rfl,rfl⟩) ?_;have X:=KA.aX.tr kW;have h3:=Gx.aX.1.st X;obtain⟨gn',hv',xE⟩:=h3.dR (show eB 3 by unfold eB;decide);have eg:gn'=gn:=by have:=hv'.symm.trans HV.aX;injection this with this;injection this with this;injection this
    subst eg;refine (au3 xE h3.lo bs _ (pQ _ _ _ _ Gx.aX.2 X) gG).mono ?_;rintro e w4⟨code,rfl,u4,GX⟩;refine⟨_,rfl,bJ.h ?_⟩;have h4:cM H L (Gd O1 i (outs.take (j+1))) w4 eB:=by rw[HK.aX,awy];exact h3.KU hv' GX u4
    have H4:=aY h4;have HU4:=aY ((HU.aX.tr (bf.bS X _)).tr u4);go_wp2;go_roundw
    case rel=>exact⟨j+1,aZ,cU,H4,HU4⟩
    case measure=>simp[aO];omega
   ·have cd:¬(j:Int)<Q outs:=aZ;obtain rfl:j=Q outs:=aZ;go_wp2;go_ret;have y:=HJ.aX;rw[nN]at y;refine⟨ib,?_⟩;rw[HR.aX];exact⟨H,L,y,rfl,HX.aX.iA HU.aX λk hk e=>by have:=T.aX.2 k e;omega,T.aX.1⟩
end
section
open Go Go.RowKit Go.Shelf
theorem arO{α:Type}{A:Fence}{n:Nat}{P:Program}{g:Operand}{C:Array Tmp}{assign body:Code}{S:Exit->Act->aP->Prop}{a:Act}{w:aP}(hro:A.round=U)(h1:1<=n){gf:Nat}{lb:Array aQ}
 (hg:a.eval g=.func (.func gf) #[] lb) (hFg:A.fn gf) (eg:∀args w,(callFunc gf args).run P w=.ok (.enter gf args) w) {encs:α->Array aQ} (hps:∀x,(encs x).size=C.size) (xs:List α) (j:List α->aP->Prop)
 (L:∀pre W o,j pre W->Z (D w)+1<Z (D W)->j pre (W.putObj (Z (D w)+1) o)) (h0:∀o,j [] ((aU w (.deferred (I []))).alloc o))
 (aE3:∀(l:Nat) (ae:List α->aP->Prop) (W:aP),(∀pre W,ae pre W->j pre W)->(∀pre x W,ae pre W->pre++[x] <+: xs->YieldAt A (n-1-1) P l (encs x) W λe W'=>e=ak (ar aA)/\ae (pre++[x]) W')->ae [] W ->
  CallsIn A (n-1) P gf (#[.func (.yield l) #[] #[]]++lb) W λe W'=>(∃v,e=ak v)/\ae xs W')
 (a₁:α->Act) (aBL:∀(l:Nat) (x:α) (W:aP) (K:Act->aP->Prop),K (a₁ x) W->assign.wpIn (A.inRound l) (n-1-1) P (Exit.then K (λ_ _ _=>False)) { tmps:=(C.zip (encs x)).foldl (λt (p,v)=>t.setIfInBounds p v) a.tmps,defers:=[] } W)
 (aDA:∀(l:Nat) (pre:List α) (x:α) (W:aP),j pre W->pre++[x] <+: xs->Z (D w)+1<Z (D W)->body.wpIn (A.inRound l) (n-1-1) P (λe _ W'=>e=.normal/\(∀k,k=Z (D w)∨k=Z (D w)+1->W'.heap[k]?=W.heap[k]?)/\j (pre++[x]) W') (a₁ x) W)
 (aDB:∀W,j xs W->W.heap[Z (D w)]?=I (.deferred (I []))->S .normal { a with defers:={ target:=.collected (Z (D w)),args:=#[] } :: a.defers } W):(Code.rangeFunc g C assign body).wpIn A n P S a w:=by
 refine wpIn_rangeFunc ?_
 intro fn hfn
 rw[hro]
 obtain⟨y,z⟩:∃y:LoopState->Loop,y=λst=>{ state:=st,pending:=U,fn:=fn,tmps:=a.tmps,params:=C,assign:=assign,body:=body,defers:=Z (D w) }:=⟨_,rfl⟩
 have h0':=h0 (.loop (y .ready))
 obtain⟨W1,H⟩:∃W1,(aU w (.deferred (I []))).alloc (.loop (y .ready))=W1:=⟨_,rfl⟩
 rw[H]at h0'
 have hL1:W1.heap[Z (D w)+1]?=I (.loop (y .ready)):=by rw[<- H];have:=World.alloc_heap_new (aU w (.deferred (I []))) (.loop (y .ready));rwa [World.size_alloc]at this
 have hK1:W1.heap[Z (D w)]?=I (.deferred (I [])):=by rw[<- H];exact (Below.heap_alloc _ _ _ bq).trans (World.alloc_heap_new w _)
 refine⟨Z (D w)+1,[{ target:=.collected (Z (D w)),args:=#[] }],W1,{ target:=.fn (.func gf) lb,args:=#[.func (.yield (Z (D w)+1)) #[] #[]] },W1,gf,#[.func (.yield (Z (D w)+1)) #[] #[]]++lb,W1,?_,?_,?_,?_,λ_=>h1,?_⟩
 ·rw[<- H,z];exact run_enterLoop_outer _ _ _ _ _
 ·simp only[resolve,hg];simp[go_sem]
 ·intro f' X;simp[Target.leads]at X;subst X;exact hFg
 ·simp[invoke,go_sem,eg]
 refine (aE3 (Z (D w)+1) (λpre W=>j pre W/\W.heap[Z (D w)+1]?=I (.loop (y .ready))/\W.heap[Z (D w)]?=I (.deferred (I []))) W1 (λ_ _ h=>h.1) ?_ ⟨h0',hL1,hK1⟩).mono ?_
 ·rintro pre x W⟨M,B,hk⟩ zh;have N:=(aG.1 B).1;have V:=run_yield (P:=P) (args:=encs x) B (by rw[z];exact hps x);rw[z]at V;refine⟨fn,_,assign,body,V,roundIn_of_wpIn hfn (aBL _ x W _ ⟨_,run_beginRound B (by rw[z]),?_⟩)⟩;refine wpIn_mono (aDA _ pre x _ (L _ _ _ M N) zh (by simpa [World.putObj]using N)) ?_;rintro e a3 W3⟨rfl,R,hi3⟩;have Y:=(R _ (aJ rfl)).trans (World.putObj_heap_same (o:=.loop { y .ready with state:=.busy }) N);have lN:=(R _ (aI rfl)).trans ((World.putObj_heap_other aZ).trans hk);have O:=(aG.1 Y).1;have T:=run_endRound (P:=P) U Y;rw[z]at T;exact⟨_,_,T,rfl,L _ _ _ hi3 O,by rw[z];exact World.putObj_heap_same O,(World.putObj_heap_other aZ).trans lN⟩
 ·rintro e W2⟨⟨v,rfl⟩,M,B,hk⟩;exact⟨U,_,by have:=run_endLoop (P:=P) B (by rw[z];simp);rw[z]at this;exact this,aDB _ (L _ _ _ M (aG.1 B).1) ((World.putObj_heap_other aZ).trans hk)⟩
end
section
open Go Go.RowKit Go.Shelf
attribute [local go_sem] Oper.semAt_some
def sJ(n:Nat):List Int:=((List.range n).reverse++List.range n).map λ(k:Nat)=>(k:Int)
theorem Rn n:Q (sJ n)=n+n:=by simp[sJ]
theorem au7{n j}(h:j<n):(sJ n).take (n-j)=(sJ n).take (n-(j+1))++[(j:Int)]:=by
 have t:n-(j+1)<Q (sJ n):=by grind [Rn]
 rw[show n-j=n-(j+1)+1 by omega,ix t];congr 1;simp only[sJ,List.getElem_map,List.getElem_append,List.length_reverse,List.length_range,show n-(j+1)<n by omega,dite_true,List.getElem_reverse,List.getElem_range,List.cons.injEq,and_true];omega
theorem ayk{n j}(h:j<n):(sJ n).take (n+(j+1))=(sJ n).take (n+j)++[(j:Int)]:=by
 have t:n+j<Q (sJ n):=by grind [Rn]
 rw[show n+(j+1)=n+j+1 by omega,ix t];congr 1;simp[sJ,List.getElem_append]
theorem awz l C gw n(hn:n<=1000)(y:List Int->aP->Prop)
 (L:∀pre W,y pre W->W.cell? ⟨C,0,U⟩=I (aj (I ⟨gw,0,U⟩))/\∃A c,W.cell? ⟨gw,0,U⟩=I (F A n c))
 (H:∀pre x W,y pre W->pre++[x] <+: sJ n->YieldAt Fence.wide 4 prog l #[G J x] W λe W'=>e=ak (ar aA)/\y (pre++[x]) W') W (h0:y [] W) :
 CallsIn Fence.wide 5 prog 153 #[.func (.yield l) #[] #[],aj (I ⟨C,0,U⟩)] W λe W'=>(∃v,e=ak v)/\y (sJ n) W':=by
 obtain⟨S,A,c,M⟩:=L [] W h0
 have:J.wrap ((n:Int)-1)=(n:Int)-1:=EA
 refine callsIn_of_wp func153 rfl trivial ?_ rfl
 simp only[ntmps153,List.size_toArray,fY,List.length_nil,Nat.reduceAdd,Nat.reduceSub,Array.replicate_succ,Array.replicate_zero,List.push_toArray,List.append_toArray,bU,bZ]
 gi_wp2
 gi_loopw [3] (λi wr=>∃j:Nat,i=G J ((j:Int)-1)/\j<=n/\y ((sJ n).take (n-j)) wr) (λi _=>(aO i+1).toNat)
 case atStart=>exact⟨n,rfl,bL n,Ng⟩
 case round =>
  obtain⟨j,rfl,Y,t⟩:=hrel
  cases j with
  | zero =>
   generalize wr=w1 at *;obtain⟨S,A2,c2,M⟩:=L _ _ t;gi_wp2;gi_loopw [4,24] (λ_ i R=>∃j:Nat,i=G J j/\j<=n/\y ((sJ n).take (n+j)) R) (λ_ i _=>n-(aO i).toNat)
   case atStart=>exact⟨0,rfl,eO n,t⟩
   case round =>
    obtain⟨j,rfl,Y,t⟩:=hrel;by_cases X:j<n
    ·have V:(j:Int)<n:=aZ;have HS:=aY (ayk X);obtain⟨O,T,assign,body,N,B⟩:=H _ (j:Int) _ t amo;gi_wp2;refine B.mono ?_;rintro e W3⟨rfl,z⟩;rw[<- HS.aX]at z;gi_wp2;refine⟨?_,NZ⟩;iterate 9 apply Exists.intro
     refine⟨⟨j+1,?_,aZ,z⟩,rfl⟩;go_num
    ·have V:¬(j:Int)<n:=aZ;obtain rfl:j=n:=aZ;rw[iw (by rw[Rn];omega)]at t;gi_wp2;go_end0;exact⟨⟨_,rfl⟩,t⟩
  | succ j => have HS:=aY (au7 (show j<n by omega));have:J.wrap ((j:Int)-1)=(j:Int)-1:=EA;rw[show ((j+1:Nat):Int)-1=(j:Int) by omega];obtain⟨O,T,assign,body,N,B⟩:=H _ (j:Int) _ t amo;gi_wp2;refine B.mono ?_;rintro e W3⟨rfl,z⟩;rw[<- HS.aX]at z;gi_wp2;refine⟨?_,by simp[aO]⟩;exact⟨j,rfl,aZ,z⟩
end
section
open Go Go.RowKit Go.Shelf
attribute [local go_sem] Oper.semAt_some
theorem as1 gw W :
 aK prog 99 #[aj (I ⟨gw,0,U⟩)] W λe w'=>e=ak (.func (.func 153) #[] #[aj (I ⟨Z (D W),0,U⟩)])/\w'=W.alloc (aq #[aj (I ⟨gw,0,U⟩)] 49):=by
 go_in
 go_wp2
 go_ret
 exact⟨rfl,rfl⟩
theorem aBM{L k l l'}(h:nI L k=I l):nI (jV L k l') k=I l':=by
 unfold nI jV at *
 induction L with
 | nil=>simp at h
 | cons p L j =>
  grind
theorem atU{O a b}(h:pz O a b≠0):pz (nJ O a b).1 a b+1=pz O a b:=by
 unfold pz nJ at *
 cases e:nI O.dR (a,b)with
 | none=>rw[e]at h;simp at h
 | some l=>cases l with
  | nil=>rw[e]at h;simp at h
  | cons m l =>
   have j:=aBM (l':=l) e;simp only;split
   ·simp[j]
   ·show Q ((nI (jV O.dR (a,b) l) (a,b)).getD [])+1=_;simp[j]
section
variable {W:aP} {H:nf} {own:Nat->Nat} {O:cP} {par bj:List Int} {k:Nat}
def zl(O:cP)(pre:List Int):cP:=(pre.map Int.toNat).foldl vK O
theorem ayl O pre x:zl O (pre++[x])=vK (zl O pre) x.toNat:=by simp[zl]
theorem aAk O:zl O (sJ (Q O.par))=EF O:=by unfold zl sJ EF;rw[List.map_map];congr 1;rw[show Int.toNat ∘ (λ(k:Nat)=>(k:Int))=id from rfl,List.map_id]
def IV(H:nf)(own:Nat->Nat)(O:cP)(par bj:List Int)(k:Nat)(j:aP)(pre:List Int)(W:aP):Prop:=∃y t,cM y t (zl O pre) W eB/\y.gw=H.gw/\bf (λk=>2<=own k∨k=Z (D j)∨k=Z (D j)+1) j W/\(∀k,k<Z (D j)->t k=own k)/\t (Z (D j))=1/\t (Z (D j)+1)=1/\dh par bj (zl O pre) (k+49*Q pre)
theorem aBN O n(h:(pw O n).2≠0):(pw O n).1=O:=by
 grind [pw,mq,eF]
theorem IV.next{j W1 W3 B t y pre}(T:B.gw=H.gw)(u:bf (λk=>2<=own k∨k=Z (D j)∨k=Z (D j)+1) j W1)(C:∀k,k<Z (D j)->t k=own k)(R:t (Z (D j))=1)(h6:t (Z (D j)+1)=1)(X:Z (D j)+1<Z (D W1))
 (V:ew B t y W1 W3) (e:zl O pre=y) (S:dh par bj y (k+49*Q pre)):(∀k,k=Z (D j)∨k=Z (D j)+1->W3.heap[k]?=W1.heap[k]?)/\IV H own O par bj k j pre W3:=by
 subst e
 obtain⟨W,L,N,M,A,z⟩:=V
 refine⟨λk hk=>A.block k aZ bG,W,L,N,M.trans T,u.iA A λk hk e=>aI (C k hk▸e),λk hk=>(z k aZ).trans (C k hk),(z _ aZ).trans R,(z _ aZ).trans h6,S⟩
def sc(T:cP)(j i:Nat):cP:=(List.range i).foldl (λO (t:Nat)=>if t=j then O else Be j t (pz O j t) O) T
theorem aym T j i:sc T j (i+1)=if i=j then sc T j i else Be j i (pz (sc T j i) j i) (sc T j i):=by simp[sc,List.range_succ]
theorem aAl{p:Nat->Prop} m(h:p m):∃m,p m/\∀m',p m'->m<=m':=by
 induction m using Nat.strongRecOn with
 | _ m j =>
  grind
noncomputable def Ob (p:Nat->Prop):Nat:=Classical.epsilon λm=>p m/\∀m',p m'->m<=m'
theorem agZ{p m}(h:p m):p (Ob p)/\Ob p<=m:=by have:=Classical.epsilon_spec (aAl m h);exact⟨this.1,this.2 m h⟩
structure IW(H':nf)(cW:Nat->Nat)(W1:aP)(par bj:List Int)(T:cP)(j i kk:Nat)(O':cP)(W:aP):Prop where
 ov:ew H' cW O' W1 W
 inv:∃m,dh par bj O' m/\m+pz O' j i<=kk+8*i+8
 end_:if i=j then O'=sc T j i else Be j i (pz O' j i) O'=sc T j (i+1)
theorem as2(h:cM H own O W eB)(hI:dh par bj O k)(hp:Q par<=6)(hk:k+588<=40000) :
 aK prog 57 #[aj (I ⟨H.gw,0,U⟩)] W λe w'=>e=ak (au #[])/\ew H own (EF O) W w':=by
 refine (callsIn_wide (n:=6)).1 ?_
 refine callsIn_of_wp_marks func57 rfl trivial ?_ rfl
 simp only[ntmps57,List.size_toArray,fY,List.length_nil,Nat.reduceAdd,Nat.reduceSub,Array.replicate_succ,Array.replicate_zero,List.push_toArray,List.append_toArray,bU,bZ]
 have cD:=(bn.new W 49 #[aj (I ⟨H.gw,0,U⟩)])
 have q1:=cD.cell
 gi_wp2_with fail
 refine⟨trivial,(callsIn_wide.2 (as1 _ _)).mono ?_⟩
 rintro e C⟨rfl,rfl⟩
 gi_wp2_with fail
 have k2:=K.lK W (aq #[aj (I ⟨H.gw,0,U⟩)] 49) (aq #[aj (I ⟨H.gw,0,U⟩)] 49)
 have hx1:=cD.alloc (aq #[aj (I ⟨H.gw,0,U⟩)] 49)
 have hx2:=bn.new (aU W (aq #[aj (I ⟨H.gw,0,U⟩)] 49)) 49 #[aj (I ⟨H.gw,0,U⟩)]
 simp only[World.size_alloc]at hx2⊢
 have h2:=h.st k2
 have hlo:∀k,Z (D W)<=k->own k=0:=λk hk=>by have:=h.lo k;omega
 have hz2:Z (D ((aU W (aq #[aj (I ⟨H.gw,0,U⟩)] 49)).alloc (aq #[aj (I ⟨H.gw,0,U⟩)] 49)))=Z (D W)+2:=bq
 generalize (aU W (aq #[aj (I ⟨H.gw,0,U⟩)] 49)).alloc (aq #[aj (I ⟨H.gw,0,U⟩)] 49)=C at *
 have ep:=hI.uA
 have Ju:=aY λpre W' (h:IV H own O par bj k C pre W')=>by obtain⟨z,y,h1,B,u,-⟩:=h;exact hx1.cA u λe=>by have:=hlo (Z (D W)) (bL _);omega
 have yF:=aY λpre W' (h:IV H own O par bj k C pre W')=>by obtain⟨z,y,h1,B,u,-⟩:=h;exact hx2.cA u λe=>by have:=hlo (Z (D W)+1) (by omega);omega
 have HPR:=aY λpre W' (h:IV H own O par bj k C pre W')=>by obtain⟨z,y,h1,B,u,_,_,_,R⟩:=h;obtain⟨A,c,e,-⟩:=h1.fx.now.1;have q:=(h1.gW p2).blk.cell 0;rw[B,e,R.uA,<- ep]at q;exact (show ∃A c,W'.cell? ⟨H.gw,0,U⟩=I (F A (Q O.par) c)from ⟨A,c,q⟩)
 clear q1 cD
 refine arO rfl aZ (gf:=153) (lb:=#[aj (I ⟨Z (D W)+1,0,U⟩)]) rfl trivial (enters_of func153 dz rfl) (encs:=λx:Int=>#[G J x]) (λ_=>rfl) (sJ (Q O.par)) (IV H own O par bj k C) ?put ?start
  (λl ae W' hJI hY hJ=>awz l (Z (D W)+1) H.gw (Q O.par) (by rw[ep];omega) ae (λpre W' h=>⟨(yF.aX pre W' (hJI pre W' h)).cell 0,HPR.aX pre W' (hJI pre W' h)⟩) hY W' hJ)
  (λx=>{ tmps:=#[aj (I ⟨H.gw,0,U⟩),aj (I ⟨Z (D W),0,U⟩),G J x,undef,aj (I ⟨H.gw,0,U⟩),ar az,aj (I ⟨H.gw,0,U⟩),.func (.func 153) #[] #[aj (I ⟨Z (D W)+1,0,U⟩)],G J x,undef,undef,undef,undef,undef,undef,undef,undef,undef,undef,undef,undef,undef,undef,undef,undef,undef,undef,undef,undef,undef,undef,undef,undef,undef,undef,undef,undef,undef,undef],defers:=[] }) ?assign ?body ?done
 case put =>
  rintro pre W' o⟨z,y,h1,B,u,h4,h5,h6,R⟩ hlt;have u9:bf (λk=>k=Z (D C)+1) W' (W'.putObj (Z (D C)+1) o):=bf.gy (grownBy_putObj' W' _ o) λg e=>S8
  exact⟨z,y,h1.to u9 (λk e=>by subst e;rw[h6];exact⟨by decide,by unfold eB;decide⟩) (λ_ h=>h) (λ_ _=>rfl) (λk hk e=>aab),B,u.tr (u9.more λk e=>aJ (aJ e)),h4,h5,h6,R⟩
 case start => intro o;have k3:=K.lK C (.deferred (I [])) o;have hz:Z (D ((aU C (.deferred (I []))).alloc o))=Z (D C)+2:=bq;exact⟨H,_,h2.D3 k3,rfl,bf.bS k3 _,λk hk=>Ih,by unfold kP;rw[bT (bL _),bT (by omega)],by unfold kP;rw[bT (by omega),bT (by omega)],hI⟩
 case assign => intro l x W' K hK;gi_wp2;exact hK
 case body =>
  intro l pre x W1 hR zh hlt;dsimp only;obtain⟨j,rfl,hjn⟩:∃j:Nat,x=(j:Int)/\j<Q O.par:=by have:=zh.subset (show x∈pre++[x] by simp);unfold sJ at this;obtain⟨j,h1,rfl⟩:=List.mem_map.1 this;exact⟨j,rfl,Cx⟩
  have hpl:Q pre+1<=12:=by have:=zh.length_le;rw[Rn,ep]at this;simp at this;omega
  have abG:=Ju.aX pre W1 hR;have q:=abG.cell;obtain⟨z,y,h1,B,u,h4,h5,h6,R⟩:=hR;have S:zl O (pre++[(j:Int)])=vK (zl O pre) j:=ayl O pre j;have hI9:=dh.turn R hp aZ j;have rI:=aY λP' W3 (hN:ew z y P' W1 W3) (e:vK (zl O pre) j=P')=>IV.next (bj:=bj) (par:=par) (k:=k) B u h4 h5 h6 hlt hN (S.trans e) aBO
  generalize zl O pre=P at *;have C1:=aY (aeX h1 R aZ j);rw[B]at C1;have hIT:=R.tick j;have HTN:=aY (aBN P j);have V2:Hid (vK P j=if (pw P j).2=0 then sc (pw P j).1 j (Q O.par)else P):=aY (by unfold vK sc;rw[R.uA,ep]);gi_wp2_with fail
  refine⟨trivial,((callsIn_wide.2 C1.aX).inRound l).mono ?_⟩;rintro e W3⟨rfl,hN⟩;generalize pw P j=T at *;obtain⟨T,code⟩:=T;by_cases hc:code=0
  ·subst hc;have HT:Hid (vK P j=sc T j (Q O.par)):=aY (by rw[V2.aX];exact bT rfl);have HN0:=aY (show ew z y T W1 W3 from hN);have HI0:=aY (show dh par bj T (k+49*Q pre+1)from hIT);have HQ:=aY λt Wr m (hN:ew z y t W1 Wr) (hI:dh par bj t m)=>show (∀i,Wr.cell? ⟨Z (D W),i,U⟩=#[aj (I ⟨H.gw,0,U⟩)][i]?)/\(∃A c,Wr.cell? ⟨H.gw,0,U⟩=I (F A (Q O.par) c))/\∃H2 X gn,cM H2 X t Wr eB/\H2.gw=H.gw/\bf (λk=>2<=y k) W1 Wr/\(∀k,k<Z (D W1)->X k=y k)/\Wr.cell? ⟨H.gw,2,U⟩=I (aj (I ⟨gn,0,U⟩))/\o6 (λk=>X k≠0) (λk=>X k=3) gn t.dR Wr from by obtain⟨H2,X,N,g2,g3,g4⟩:=hN;obtain⟨A,c,e,-⟩:=N.fx.now.1;obtain⟨gn,hv,Mr⟩:=N.dR (show eB 3 by unfold eB;decide);have q0:=(N.gW p2).blk.cell 0;have q2:=(N.gW p2).blk.cell 2;rw[g2,B,e,hI.uA,<- ep]at q0;rw[g2,B,hv]at q2;exact⟨(abG.cA g3 λe=>by have:=hlo (Z (D W)) (bL _);have:=h4 (Z (D W)) (by omega);omega).cell,⟨A,c,q0⟩,H2,X,gn,N,g2.trans B,g3,g4,q2,Mr⟩
   obtain⟨q3,⟨A3,c3,qp3⟩,-⟩:=HQ.aX _ _ _ HN0.aX HI0.aX;generalize hkk:k+49*Q pre+1=M at *;have HKK:Hid (M<=39952):=aY aZ;have HH3:=aY B;have HPL:Hid (Q O.par<=6):=aY (by rw[ep];exact hp);clear hN HTN V2 C1 hIT q h1 R u S hI9 h2 hx1 hx2 hI h ep hkk abG zh hpl hlt B h4 h5 h6;gi_wp2_with fail
   gi_loopw [3,18] (λ_ iv Wi=>∃i:Nat,i<=Q O.par/\iv=G J i/\Hid (ew z y (sc T j i) W1 Wi)/\Hid (dh par bj (sc T j i) (M+8*i))) (λ_ iv _=>Q O.par-(aO iv).toNat)
   case atStart=>exact⟨0,eO _,rfl,HN0,HI0⟩
   case round =>
    clear HN0 HI0 q3 qp3;obtain⟨i,hi,rfl,Jk,HI1⟩:=hrel;generalize wr=w5 at *;by_cases hlt:i<Q O.par
    ·have BN:(i:Int)<Q O.par:=aZ;gi_wp2_with fail
     have PJ:=aY (aym T j i);gi_loopw [] (λWi=>∃t,Hid (IW z y W1 par bj T j i M t Wi)) (λWi=>Ob λm=>∃t,IW z y W1 par bj T j i M t Wi/\pz t j i=m)
     case atStart =>
      refine⟨sc T j i,aY ⟨Jk.aX,⟨_,HI1.aX,by have:=HI1.aX.long j i;omega⟩,?_⟩⟩;split
      ·rfl
      ·next h9=>rw[PJ.aX,bO h9]
     case round =>
      clear Jk HI1;obtain⟨O0,jK⟩:=hrel;obtain⟨t,V,hm⟩:=(agZ (p:=λm=>∃t,IW z y W1 par bj T j i M t wr/\pz t j i=m) ⟨O0,jK.aX,rfl⟩).1;have HO:=aY V;have HM:=aY hm;obtain⟨m,Qs,hmm⟩:=V.inv;obtain⟨q3,⟨A4,c4,qp4⟩,H2,X,gn,N,g2,g3,g4,qn,Mr⟩:=HQ.aX _ _ _ V.ov Qs;have hb:=HPL.aX;by_cases hij:i=j
      ·subst hij;have Y:=V.end_;rw[bT rfl]at Y;have HF:=aY (show ew z y (sc T i (i+1)) W1 wr by rw[PJ.aX,bT rfl,<- Y];exact V.ov);have HI2:=aY (show dh par bj (sc T i (i+1)) (M+8*(i+1)) by rw[PJ.aX,bT rfl,<- Y];exact Qs.mono aZ);clear V hm Qs hmm N g3 Mr Y;gi_wp2;refine⟨trivial,?_⟩;gi_wp2;exact⟨⟨i+1,hjn,cU,HF,HI2⟩,NZ⟩
      ·have aJW:((i:Int) != (j:Int))=true:=cG;have C4:=aY (au4 (a:=(j:Int)) (b:=(i:Int)) Mr);have Y:=V.end_;rw[bO hij]at Y;have HHE:=aY Y;have VM:Hid (Q ((nI t.dR ((j:Int),(i:Int))).getD [])=pz t j i):=aY rfl;have C5:=aY (aer N Qs amp (j:Int) (i:Int));rw[g2]at C5;rw[VM.aX]at C4;obtain⟨L,hL⟩:∃L,L=pz t j i:=⟨_,rfl⟩;rw[<- hL]at C4;have HL:=aY hL;have sY:=(N.gW p2).blk;have HTR:=aY λO9 W9 (h9:ew H2 X O9 wr W9)=>show ew z y O9 W1 W9 from ew.tr g3 (g2.trans HH3.aX.symm) g4 h9
       clear hm Qs hmm N g3 g4 Mr Y hL V;gi_wp2_with fail
       refine⟨trivial,((callsIn_wide.2 C4.aX).inRound l).mono ?_⟩;rintro e w'⟨rfl,rfl⟩;cases L with
       | zero => have S:=HHE.aX;rw[<- HL.aX]at S;have HF:=aY (show ew z y (sc T j (i+1)) W1 w' from (show t=sc T j (i+1)from S)▸HO.aX.ov);have HI2:=aY (show dh par bj (sc T j (i+1)) (M+8*(i+1))from (show t=sc T j (i+1)from S)▸HO.aX.inv.elim λm h=>h.1.mono aZ);clear S;gi_wp2;exact⟨⟨i+1,aZ,cU,HF,HI2⟩,NZ⟩
       | succ L =>
        have hpos:(0:Int)<((L+1:Nat):Int):=aZ;gi_wp2_with fail
        refine⟨trivial,((callsIn_wide.2 C5.aX).inRound l).mono ?_⟩;rintro e w6⟨rfl,hN6⟩;have VD:=atU (O:=t) (a:=(j:Int)) (b:=(i:Int)) (by rw[<- HL.aX];omega);have aoJ:pz (nJ t (j:Int) (i:Int)).1 j i=L:=by have:=HL.aX;omega
        have hR6:IW z y W1 par bj T j i M (nJ t (j:Int) (i:Int)).1 w6:=by obtain⟨m,oM,hm2⟩:=HO.aX.inv;refine⟨HTR.aX _ _ hN6,⟨m+1,oM.EB amp j i,aZ⟩,?_⟩;have S:=HHE.aX;rw[<- HL.aX]at S;rw[bO hij,aoJ];exact S
        have HR6:=aY hR6;have Mi:Hid ((Ob λm=>∃t,IW z y W1 par bj T j i M t w6/\pz t j i=m)<Ob λm=>∃t,IW z y W1 par bj T j i M t w'/\pz t j i=m):=aY (by
         rw[<- HM.aX];have:=(agZ (p:=λm=>∃t,IW z y W1 par bj T j i M t w6/\pz t (j:Int) (i:Int)=m) ⟨_,hR6,rfl⟩).2;omega)
        clear hN6 VD aoJ hR6 C4 C5 HTR sY;gi_wp2;exact⟨⟨_,HR6⟩,Mi.aX⟩
    ·have BN:¬(i:Int)<Q O.par:=aZ;obtain rfl:i=Q O.par:=aZ;have HF:=aY (rI.aX _ _ Jk.aX HT.aX);exact amq
  ·have hne:(code != 0)=true:=Ev;have HF:=aY (rI.aX T W3 hN (by rw[V2.aX,bO hc];exact (HTN.aX hc).symm));clear hN rI HTN V2 C1;exact amq
 case done =>
  rintro W'⟨z,y,h1,B,u,h4,h5,h6,R⟩ hK;rw[aAk]at h1;have u9:bf (λk=>k=Z (D C)) W' (W'.putObj (Z (D C)) (.deferred U)):=bf.gy (grownBy_putObj' W' _ _) λg e=>S8
  have HF:=aY (show ew H own (EF O) W (W'.putObj (Z (D C)) (.deferred U))from
   ⟨z,y,h1.to u9 (λk e=>by subst e;rw[h5];exact⟨by decide,by unfold eB;decide⟩) (λ_ h=>h) (λ_ _=>rfl) (λk hk e=>aab),B,
    ((bf.bS k2 _).iA u λk hk e=>aZ).iA u9 λk hk e=>aZ,λk hk=>h4 k aZ⟩)
  gi_wp2;refine⟨bq,aI ⟨_,_,rfl,run_takeDeferred hK,?_⟩⟩;exact⟨_,results_none rfl _ _ _,rfl,HF.aX⟩
end
end
section
variable {W W2:aP} {H:nf} {own:Nat->Nat} {O:cP}
theorem cM.aE4{α fb}{args:aQ->Array aQ}{ret:α×Int->aQ}(h:cM H own O W eB)(C:pY O) c a z f
 (L:∀m B,eF O m=I B->∀X y g gd j,K W j->eS X y g gd B j->aK prog fb (args (aj (I ⟨g,0,U⟩))) j λe w'=>e=ak (ret (f B).2)/\eS X y g gd (f B).1 w'/\bf (λk=>¬y k) j w') :
 (∃d:Int,(d != 0)=aA/\Du H O c a=(aj U,d)/\xF O c a z f=(O,z,d)) ∨
 ∃g t r,Du H O c a=(aj (I ⟨g,0,U⟩),0)/\xF O c a z f=(t,r)/\∀j,K W j->aK prog fb (args (aj (I ⟨g,0,U⟩))) j λe w'=>e=ak (ret r)/\ew H own t W w':=by
 unfold Du xF
 rcases h.via C c z f L with ⟨d,P,N,A,M⟩|⟨g,t,r,N,A,M,R⟩
 all_goals grind
theorem Wt(h:cM H own O W eB)(S:pY O) c a f(fb:Nat) cs(hf:∀args W,(callFunc fb args).run prog W=.ok (.enter fb args) W)
 (hc:∀m B,eF O m=I B->∀X A g gd z,K W z->eS X A g gd B z->aK prog fb (#[aj (I ⟨g,0,U⟩),di a]++cs) z λe w'=>e=ak (G J (f B).2.2)/\eS X A g gd (f B).1 w'/\bf (λk=>¬A k) z w') :
 aK prog 112 #[aj (I ⟨H.gw,0,U⟩),G J c,di a,.func (.func fb) #[] cs] W λe w'=>e=ak (G J (xF O c a () f).2.2)/\ew H own (xF O c a () f).1 W w':=by
 have N:=bn.new W 42 #[G J a.1,G E a.2.1,G E a.2.2]
 have L:=N.cC
 have y:=aY (aeu (h.st L) p2 pB S c a)
 have HV:=h.aE4 (ret:=λr=>G J r.2) (args:=λv=>#[v,di a]++cs) S c a () f hc
 generalize xF O c a () f=R at *
 have HQ:=aY λj (t:K (aU W (aq #[G J a.1,G E a.2.1,G E a.2.2] 42)) j)=>(N.bF t).cell
 have V:=aY λj (t:K W j)=>h.now t
 rcases HV with ⟨d,hne,M,rfl⟩|⟨g,O',⟨⟨⟩,ec⟩,M,rfl,C2⟩
 ·rw[M]at y;go_in;go_wp2_with fail
  apply dP y.aX L;intro j t C;have HF:=aY (V.aX j C);exact Tb
 ·have Y:=aY C2;rw[M]at y;go_in;go_wp2_with fail
  apply dP y.aX L;intro j t C;have C3:=aY (Y.aX j C);have:=HQ.aX j t;go_wp2_with fail
  apply bN C3.aX;intro w3 T;have HF:=aY T;exact Tb
theorem arU{X y g gd B}(h:eS X y g gd B W) a(V:dX a) j u z(hb:bn W z 35 #[u])(S:iT j u W)(N:Q j<=1000000)(M:∀x∈j,ny x) :
 aK prog 113 #[aj (I ⟨g,0,U⟩),di a,aj (I ⟨z,0,U⟩)] W λe w'=>e=ak (G J (fV B (jq B.bH a j)).2)/\eS X y g gd (fV B (jq B.bH a j)).1 w'/\bf (λk=>¬y k) W w':=by
 have A:=bn.new W 42 #[G J a.1,G E a.2.1,G E a.2.2]
 have t:=A.cC
 have L:=aY (aAb (h.st t) a V j u (nL j u _ _ S t) N M)
 have q:=A.cell
 have:=(hb.bF t).cell
 have T:=aY t
 generalize fV B (jq B.bH a j)=R at *
 go_in
 go_wp2_with fail
 apply bN L.aX
 rintro w2⟨O,C⟩
 have H:=aY (aB O ((bf.bS T.aX _).tr C))
 go_wp2
 go_ret
 exact⟨rfl,H.aX⟩
theorem ar6(h:cM H own O W eB)(V:pY O) c a(S:dX a) j u(A:iT j u W)(mE:Q j<=1000000)(Y:∀x∈j,ny x) :
 aK prog 66 #[aj (I ⟨H.gw,0,U⟩),G J c,di a,u] W λe w'=>e=ak (G J (jB O c a λl=>jq l a j).2.2)/\ew H own (jB O c a λl=>jq l a j).1 W w':=by
 obtain⟨t,y,rfl⟩:=tc A
 have T:=(bn.new W 42 #[G J a.1,G E a.2.1,G E a.2.2]).alloc (aq #[F t (Q j) y] 35)
 have N:=bn.new (aU W (aq #[G J a.1,G E a.2.1,G E a.2.2] 42)) 35 #[F t (Q j) y]
 have z:=K.lK W (aq #[G J a.1,G E a.2.1,G E a.2.2] 42) (aq #[F t (Q j) y] 35)
 have L:=aY (Wt (h.st z) V c a (λB=>((fV B (jq B.bH a j)).1,(),(fV B (jq B.bH a j)).2)) 113 #[aj (I ⟨Z (D W)+1,0,U⟩)] (λ_ _=>rfl) λm B G4 X aS g gd W2 C M=>arU M a S j _ _ (by simpa using N.bF C) (nL j _ _ _ A (z.tr C)) mE Y)
 have HR:Hid (jB O c a (λl=>jq l a j)=xF O c a () λB=>((fV B (jq B.bH a j)).1,(),(fV B (jq B.bH a j)).2)):=aY rfl
 generalize jB O c a (λl=>jq l a j)=R at *
 have q:=T.cell
 have HK:=aY z
 go_in
 go_wp2_with fail
 apply bN L.aX
 intro w2 hN
 have HF:=aY (ew.k HK.aX hN)
 go_wp2
 go_ret
 exact⟨ib,Kt⟩
theorem asp(h:cM H own O W eB)(y:pY O) c a(M:dX a) :
 aK prog 67 #[aj (I ⟨H.gw,0,U⟩),G J c,di a] W λe w'=>e=ak (G J (jB O c a λl=>jN l a).2.2)/\ew H own (jB O c a λl=>jN l a).1 W w':=by
 have t:=bn.new W 42 #[G J a.1,G E a.2.1,G E a.2.2]
 have j:=t.cC
 have z:=aY (Wt (h.st j) y c a (λB=>((fV B (jN B.bH a)).1,(),(fV B (jN B.bH a)).2)) 115 #[] (λ_ _=>rfl) λm B T X V g gd Y N A=>aBG A a M)
 have HR:Hid (jB O c a (λl=>jN l a)=xF O c a () λB=>((fV B (jN B.bH a)).1,(),(fV B (jN B.bH a)).2)):=aY rfl
 generalize jB O c a (λl=>jN l a)=R at *
 have q:=t.cell
 have C:=aY j
 go_in
 go_wp2_with fail
 apply bN z.aX
 intro S L
 have HF:=aY (ew.k C.aX L)
 go_wp2
 go_ret
 exact⟨ib,Kt⟩
theorem as3(h:cM H own O W eB)(y:pY O) c a(M:dX a) :
 aK prog 68 #[aj (I ⟨H.gw,0,U⟩),G J c,di a] W λe w'=>e=ak (G J (jB O c a λl=>jO l a).2.2)/\ew H own (jB O c a λl=>jO l a).1 W w':=by
 have t:=bn.new W 42 #[G J a.1,G E a.2.1,G E a.2.2]
 have j:=t.cC
 have z:=aY (Wt (h.st j) y c a (λB=>((fV B (jO B.bH a)).1,(),(fV B (jO B.bH a)).2)) 116 #[] (λ_ _=>rfl) λm B T X V g gd Y N A=>aCS A a M)
 have HR:Hid (jB O c a (λl=>jO l a)=xF O c a () λB=>((fV B (jO B.bH a)).1,(),(fV B (jO B.bH a)).2)):=aY rfl
 generalize jB O c a (λl=>jO l a)=R at *
 have q:=t.cell
 have C:=aY j
 go_in
 go_wp2_with fail
 apply bN z.aX
 intro S L
 have HF:=aY (ew.k C.aX L)
 go_wp2
 go_ret
 exact⟨ib,Kt⟩
theorem asq(h:cM H own O W eB)(S:pY O) c a :
 aK prog 21 #[aj (I ⟨H.gw,0,U⟩),G J c,di a] W λe w'=>e=ak (au #[G J (xQ O c a).1,G J (xQ O c a).2])/\K W w':=by
 have N:=bn.new W 42 #[G J a.1,G E a.2.1,G E a.2.2]
 have L:=N.cC
 have y:=aY (aeu (h.st L) p2 pB S c a)
 have HR:Hid (xQ O c a=(xF O c a (0:Int) λB=>(B,Ib B a,0)).2):=aY rfl
 generalize xQ O c a=R at *
 have HV:(∃d:Int,(d != 0)=aA/\Du H O c a=(aj U,d)/\R=(0,d))∨∃g B,Du H O c a=(aj (I ⟨g,0,U⟩),0)/\R=(Ib B a,0)/\∀A,K W A->∃X M gd,eS X M g gd B A:=by
  rw[HR.aX];unfold Du xF;rcases h.abF S c with ⟨d,T,C,hcall,hu⟩|⟨n,B,gd,g,h1,h2,h3,h4,h5,h6,h7,h8,h9⟩
  ·grind
  ·rw[h7,h6,h4,h5,h9];by_cases e:a.1=(n:Int)
   ·exact aJ ⟨g,B,FO,FO,λA j=>⟨_,_,gd,h8 A j⟩⟩
   simp_all
 rcases HV with ⟨d,T,C,rfl⟩|⟨g,B,C,rfl,Y⟩
 ·rw[C]at y;go_in;go_wp2_with fail
  apply dP y.aX L;intro t j z;go_wp2;go_ret2;exact⟨rfl,z⟩
 ·rw[C]at y;have HL:=aY Y;have HQ:=aY λt (j:K (aU W (aq #[G J a.1,G E a.2.1,G E a.2.2] 42)) t)=>(N.bF j).cell
  go_in;go_wp2_with fail
  apply dP y.aX L;intro t j z;obtain⟨X,M,gd,wj⟩:=HL.aX t z;have C3:=aY (aBH wj a);have:=HQ.aX t j;go_wp2_with fail
  apply dP C3.aX z;intro w3 k3 V;go_wp2;go_ret2;exact⟨rfl,V⟩
end
def eK(C:Nat->Prop)(par bj:List Int)(gw:Nat)(O:cP)(k:Nat)(j:Nat->Prop)(W:aP):Prop :=
 dh par bj O k/\∃H own,H.gw=gw/\cM H own O W eB/\(∀b,j b->b<Z (D W)/\own b=0)/\∀b,C b->b<Z (D W)/\own b=1
def rJ(C:Nat->Prop)(par bj:List Int)(gw:Nat)(O:cP)(k:Nat)(j:Nat->Prop)(W W':aP):Prop:=eK C par bj gw O k j W'/\bf (λb=>¬j b/\¬C b) W W'
section
variable {C C':Nat->Prop} {par bj:List Int} {gw k:Nat} {O O':cP} {aS Z':Nat->Prop} {W W':aP}
theorem eK.lt(h:eK C par bj gw O k aS W):∀b,aS b∨C b->b<Z (D W):=λb hb=>by obtain⟨-,_,_,-,-,hz,j⟩:=h;exact hb.elim (λhb=>(hz b hb).1) λhb=>(j b hb).1
theorem eK.apart(h:eK C par bj gw O k aS W):∀b,aS b->¬C b:=λb hb t=>by obtain⟨-,_,_,-,-,hz,j⟩:=h;have:=(hz b hb).2;have:=(j b t).2;omega
theorem eK.to(h:eK C par bj gw O k aS W)(u:bf C W W')(B:∀b,Z' b->aS b∨Z (D W)<=b/\b<Z (D W'))(N:∀b,C' b->C b∨Z (D W)<=b/\b<Z (D W'))(M:∀b,Z (D W)<=b->Z' b->¬C' b):eK C' par bj gw O k Z' W':=by
 classical
 obtain⟨t,H,own,e,z,hz,y⟩:=h
 have L:=u.size
 obtain⟨j,A⟩:∃j:Nat->Nat,j=λb=>if b<Z (D W)then own b else if C' b then 1 else 0:=⟨_,rfl⟩
 refine⟨t,H,j,e,z.to u (λb hb=>?_) (λ_ h=>h) (λb hb=>by rw[A];simp[hb]) (λb hb hn=>?_),λb hb=>?_,λb hb=>?_⟩
 ·have:=(y b hb).2;exact⟨aZ,by rw[this];unfold eB;omega⟩
 all_goals grind [eB]
theorem eK.st(h:eK C par bj gw O k aS W)(u:K W W'):eK C par bj gw O k aS W':=h.to (bf.bS u _) (λ_ h=>aI h) (λ_ h=>aI h) λb hb hz=>absurd (h.lt b (aI hz)) (by omega)
theorem eK.go(h:eK C par bj gw O k aS W){fb}{args:aQ->Array aQ}{R:Ending->aP->Prop}{j}
 (M:∀H own,cM H own O W eB->aK prog fb (args (aj (I ⟨H.gw,0,U⟩))) W λe w'=>R e w'/\ew H own O' W w') (B:dh par bj O' j) :
 aK prog fb (args (aj (I ⟨gw,0,U⟩))) W λe w'=>R e w'/\rJ C par bj gw O' j aS W w':=by
 obtain⟨-,H,own,rfl,T,hz,z⟩:=h
 refine (M H own T).mono ?_
 rintro e w'⟨N,V,L,S,A,y,t⟩
 have:=y.size
 exact⟨N,⟨B,V,L,A,S,λb hb=>⟨bG,(t b (hz b hb).1).trans (hz b hb).2⟩,λb hb=>⟨bG,(t b (z b hb).1).trans (z b hb).2⟩⟩,y.more λb hb=>⟨λY=>bG,λX=>bG⟩⟩
theorem eK.begin(h:eK C par bj gw O k aS W)(hk:k<=40000){c}(j:cV c) :
 aK prog 58 #[aj (I ⟨gw,0,U⟩),G J c] W λe w'=>e=ak (au #[di (ph O c).2.1,G J (ph O c).2.2])/\rJ C par bj gw (ph O c).1 (k+1) aS W w' :=
 h.go (args:=λp=>#[p,G J c]) (λH own t=>asZ t h.1.iK c j λn B hu=>aai) (h.1.begin aZ j)
theorem eK.sub(h:eK C par bj gw O k aS W)(hk:k<=40000){c}(j:cV c){n:Nat}(hn:n<18446744073709551616){f vf}(z:fQ f vf W)(hfit:∀t∈f,jF t)(y:Q f<=1000000) :
 aK prog 23 #[aj (I ⟨gw,0,U⟩),G J c,G E n,vf] W λe w'=>e=ak (au #[di (qY O c n f).2.1,G J (qY O c n f).2.2])/\rJ C par bj gw (qY O c n f).1 (k+1) aS W w' :=
 h.go (args:=λp=>#[p,G J c,G E n,vf]) (λH own A=>au6 A h.1.iK c j n hn f vf z hfit y λn B hu=>aai) (h.1.sub aZ j hn hfit)
theorem eK.aaI(h:eK C par bj gw O k aS W)(hk:k<=40000){c}(j:cV c){n:Nat}(hn:n<18446744073709551616) :
 aK prog 59 #[aj (I ⟨gw,0,U⟩),G J c,G E n] W λe w'=>e=ak (au #[di (qL O c n).2.1,G J (qL O c n).2.2])/\rJ C par bj gw (qL O c n).1 (k+1) aS W w' :=
 h.go (args:=λp=>#[p,G J c,G E n]) (λH own t=>as0 t h.1.iK c j n hn λn B hu=>aai) (h.1.aaI aZ j hn)
theorem eK.Kx(h:eK C par bj gw O k aS W) c{a}(y:dX a){j u}(A:iT j u W)(z:Q j<=1000000)(t:∀x∈j,ny x) :
 aK prog 66 #[aj (I ⟨gw,0,U⟩),G J c,di a,u] W λe w'=>e=ak (G J (jB O c a λl=>jq l a j).2.2)/\rJ C par bj gw (jB O c a λl=>jq l a j).1 (k+1) aS W w' :=
 h.go (args:=λp=>#[p,G J c,di a,u]) (λH own L=>ar6 L h.1.iK c a y j u A z t) (h.1.keep c a _ λB M=>M.Kx t y)
theorem eK.KH(h:eK C par bj gw O k aS W) c{a}(j:dX a) :
 aK prog 67 #[aj (I ⟨gw,0,U⟩),G J c,di a] W λe w'=>e=ak (G J (jB O c a λl=>jN l a).2.2)/\rJ C par bj gw (jB O c a λl=>jN l a).1 (k+1) aS W w' :=
 h.go (args:=λp=>#[p,G J c,di a]) (λH own y=>asp y h.1.iK c a j) (h.1.keep c a _ λB t=>t.KH j)
theorem eK.abort(h:eK C par bj gw O k aS W) c{a}(j:dX a) :
 aK prog 68 #[aj (I ⟨gw,0,U⟩),G J c,di a] W λe w'=>e=ak (G J (jB O c a λl=>jO l a).2.2)/\rJ C par bj gw (jB O c a λl=>jO l a).1 (k+1) aS W w' :=
 h.go (args:=λp=>#[p,G J c,di a]) (λH own y=>as3 y h.1.iK c a j) (h.1.keep c a _ λB t=>t.abort j)
theorem eK.round(h:eK C par bj gw O k aS W)(hp:Q par<=6)(hk:k+588<=40000) :
 aK prog 57 #[aj (I ⟨gw,0,U⟩)] W λe w'=>e=ak (au #[])/\rJ C par bj gw (EF O) (k+588) aS W w' :=
 h.go (args:=λp=>#[p]) (λH own j=>as2 j h.1 hp hk) (h.1.round hp aZ)
theorem eK.tick(h:eK C par bj gw O k aS W)(hk:k<=40000) n :
 aK prog 60 #[aj (I ⟨gw,0,U⟩),G J n] W λe w'=>e=ak (G J (pw O n).2)/\rJ C par bj gw (pw O n).1 (k+1) aS W w' :=
 h.go (args:=λp=>#[p,G J n]) (λH own j=>aeX j h.1 hk n) (h.1.tick n)
theorem eK.EB(h:eK C par bj gw O k aS W)(hk:k<=40000) a b :
 aK prog 61 #[aj (I ⟨gw,0,U⟩),G J a,G J b] W λe w'=>e=ak (G J (nJ O a b).2)/\rJ C par bj gw (nJ O a b).1 (k+1) aS W w' :=
 h.go (args:=λp=>#[p,G J a,G J b]) (λH own j=>aer j h.1 hk a b) (h.1.EB aZ a b)
theorem eK.aaJ(h:eK C par bj gw O k aS W) n keep(hk:cV keep) :
 aK prog 65 #[aj (I ⟨gw,0,U⟩),G J n,G J keep] W λe w'=>e=ak (G J (Dc O n).2)/\rJ C par bj gw (Dc O n).1 k aS W w' :=
 h.go (args:=λp=>#[p,G J n,G J keep]) (λH own j=>asX j h.1 n keep hk) (h.1.aaJ n)
theorem eK.Z7(h:eK C par bj gw O k aS W)(hk:k<=40000) n :
 aK prog 56 #[aj (I ⟨gw,0,U⟩),G J n] W λe w'=>e=ak (G J (Cw O n).2)/\rJ C par bj gw (Cw O n).1 (k+1) aS W w' :=
 h.go (args:=λp=>#[p,G J n]) (λH own j=>ar5 j h.1 hk n) (h.1.Z7 n aZ)
theorem eK.aDC(h:eK C par bj gw O k aS W)(hk:k<=40000) c :
 aK prog 28 #[aj (I ⟨gw,0,U⟩),G J c] W λe w'=>∃v j,e=ak (au #[v,G J (jE O c).2.2])/\Z (D W)<=j/\j<=Z (D w')/\Fx (λk=>k<Z (D W)∨j<=k) (λW=>bw dS (jE O c).2.1 v W) w' /\
  eK C par bj gw (jE O c).1 (k+1) (λb=>aS b∨Z (D W)<=b/\b<j) w'/\bf (λb=>¬aS b/\¬C b) W w':=by
 obtain⟨t,H,own,rfl,y,hz,X⟩:=h
 refine (atS y t hk c).mono ?_
 rintro e w'⟨v,j,rfl,S,L,A,R,B,M,z,N,h4⟩
 have:=y.lo
 exact⟨v,j,rfl,L,A,S,⟨t.IP c,R,B,z,M,λb hb=>bG,λb hb=>bG⟩,N.more λb hb=>⟨λV=>bG,λT=>bG⟩⟩
theorem eK.status(h:eK C par bj gw O k aS W) c a :
 aK prog 21 #[aj (I ⟨gw,0,U⟩),G J c,di a] W λe w'=>e=ak (au #[G J (xQ O c a).1,G J (xQ O c a).2])/\K W w':=by
 obtain⟨t,H,own,rfl,j,-⟩:=h
 exact asq j t.iK c a
theorem eK.aCZ(h:eK C par bj gw O k aS W) c :
 aK prog 31 #[aj (I ⟨gw,0,U⟩),G J c] W λe w'=>e=ak (G J (ED O c))/\w'=W:=by
 obtain⟨t,H,own,rfl,j,-⟩:=h
 exact aso j p2 t.iK c
theorem eK.state(h:eK C par bj gw O k aS W) n :
 aK prog 19 #[aj (I ⟨gw,0,U⟩),G J n] W λe w'=>∃vl vp va,e=ak (av (dY (oC O n) vl vp va))/\nF (λk=>k<Z (D W)) (oC O n) vl vp va w'/\K W w':=by
 obtain⟨t,H,own,rfl,j,-⟩:=h
 grind [aeG,p2,pB]
theorem eK.busy(h:eK C par bj gw O k aS W) n :
 aK prog 125 #[aj (I ⟨gw,0,U⟩),G J n] W λe w'=>e=ak (G J (Dk O n:Int))/\K W w':=by
 obtain⟨t,H,own,rfl,j,-⟩:=h
 grind [atT,p2,pB]
theorem eK.up(h:eK C par bj gw O k aS W) n :
 aK prog 55 #[aj (I ⟨gw,0,U⟩),G J n] W λe w'=>e=ak (ar (eF O n).isSome)/\w'=W:=by
 obtain⟨t,H,own,rfl,j,-⟩:=h
 exact Rm j p2 pB t.iK n
end
def vL(L:List lu)(k:Int×Int):List lu×Int:=match nI L k with
 | none=>(L,140)
 | some []=>(L,141)
 | some (_ :: l)=>(jV L k l,0)
def xh(L:List lu)(k:Int×Int):List lu×Int:=match nI L k with
 | none=>(L,140)
 | some []=>(L,141)
 | some (m :: l)=>(jV L k (l++[m]),0)
def wU(L:List lu)(k:Int×Int):List lu×Int:=match nI L k with
 | none=>(L,140)
 | some []=>(L,141)
 | some (m :: l)=>if Q l=7 then (L,141)else (jV L k (m :: l++[m]),0)
section
variable {gn gm c:Nat} {bu:List ((Int×Int)×aQ)} {l:List aQ} {w:aP} {a b:Int}
theorem aAm(hb:bn w gn 153 #[.map (I gm)])(hm:fC p6 w gm bu)(hk:eA bu (a,b)=U) :
 aK prog 110 #[aj (I ⟨gn,0,U⟩),G J a,G J b] w λe w'=>e=ak (G J 140)/\w'=w:=by
 have j:=aY (Ct a b w hb hm)
 rw[hk]at j
 go_in
 go_wp2_with fail
 apply bN j.aX
 rintro w' rfl
 simp only[Option.getD_none,Option.isSome_none]
 go_wp2
 go_ret
 exact⟨rfl,rfl⟩
theorem ayn(hb:bn w gn 153 #[.map (I gm)])(hm:fC p6 w gm bu)(hk:eA bu (a,b)=U) :
 aK prog 109 #[aj (I ⟨gn,0,U⟩),G J a,G J b] w λe w'=>e=ak (G J 140)/\w'=w:=by
 have j:=aY (Ct a b w hb hm)
 rw[hk]at j
 go_in
 go_wp2_with fail
 apply bN j.aX
 rintro w' rfl
 simp only[Option.getD_none,Option.isSome_none]
 go_wp2
 go_ret
 exact⟨rfl,rfl⟩
theorem au8(hb:bn w gn 153 #[.map (I gm)])(hm:fC p6 w gm bu)(hk:eA bu (a,b)=I (.chan (I c)))(H:mM c l w)(C:∀x∈l,∃A n d,x=F A n d)(h8:Q l<=8) :
 aK prog 110 #[aj (I ⟨gn,0,U⟩),G J a,G J b] w λe w'=>e=ak (G J (if l=[]then 141 else 0))/\mM c (l.tail++l.take 1) w'/\bf (λk=>k=c) w w':=by
 have y:=aY (Ct a b w hb hm)
 have L:=aY (WT c l w H)
 rw[hk]at y
 go_in
 go_wp2_with fail
 apply bN y.aX
 rintro w' rfl
 simp only[Option.getD_some,Option.isSome_some]
 go_wp2_with fail
 apply bN L.aX
 rintro O⟨z,t⟩
 cases l with
 | nil => have j:=aY (aB z t);go_wp2;go_ret;exact⟨rfl,j.aX⟩
 | cons x l =>
  obtain⟨A,n,d,rfl⟩:=C x bq;have B:=aY (MR c l (F A n d) O z);have j:=aY t;have h7:Q l<8:=by simp at h8;omega
  simp only[List.headD_cons,List.isEmpty_cons,Bool.not_false];rw[bT h7]at B;go_wp2_with fail
  apply bN B.aX;rintro S⟨R,M⟩;have N:=aY (aB R (j.aX.tr M));go_wp2;go_ret;exact⟨bq,by simpa using N.aX⟩
def JP(c:Nat)(l:List aQ)(bs:List UInt8)(w:aP)(e:Ending)(w':aP):Prop :=
 if l=[]∨Q l=8 then e=ak (G J 141)/\w'=w else e=ak (G J 0)/\(∃v',mM c (l++[v']) w'/\Fx (λk=>k<Z (D w)) (λW=>sl bs v' W) w')/\bf (λk=>k=c) w w'
theorem atV(hb:bn w gn 153 #[.map (I gm)])(hm:fC p6 w gm bu)(hk:eA bu (a,b)=I (.chan (I c)))(hc:mM c l w)(h8:Q l<=8)(bs:List UInt8)
 (hs:∀x∈l,∃A n d,x=F A n d) (hv:∀x,l.head?=I x->Fx (λk=>k=c) (λW=>sl bs x W) w) (hn:Q bs<=1000000000) :
 aK prog 109 #[aj (I ⟨gn,0,U⟩),G J a,G J b] w (JP c l bs w):=by
 have yH:=aY λ(h:l=[]∨Q l=8)=>show JP c l bs w (ak (G J 141)) w by unfold JP;rw[bT h];exact⟨rfl,rfl⟩
 have X:=aY λ(h:¬(l=[]∨Q l=8)) w' q=>show JP c l bs w (ak (G J 0)) w' by unfold JP;rw[bO h];exact⟨rfl,q⟩
 generalize JP c l bs w=PP at *
 have C1:=aY (Ct a b w hb hm)
 have HC:=aY hc
 obtain⟨s,r,hc⟩:=hc
 have hlen:∀ty,(Builtin.len_ #[155] ty #[.chan (I c)]).run prog w=.ok (G J (Q l)) w:=λty=>by exact alZ
 rw[hk]at C1
 go_in
 go_wp2_with fail
 apply bN C1.aX
 rintro w' rfl
 simp only[Option.getD_some,Option.isSome_some]
 cases l with
 | nil => go_wp2;exact yH.aX (aI trivial)
 | cons x l =>
  have h0:(((Q (x :: l):Nat):Int)==0)=false:=cG;by_cases h9:Q (x :: l)=8
  ·have h9i:((Q (x :: l):Nat):Int)=8:=aZ;go_wp2;exact yH.aX (aJ h9)
  ·replace X:=aY (X.aX (by simp;simp at h9;omega));have h9i:(((Q (x :: l):Nat):Int)==8)=false:=YU;have h7:Q (x :: l)<8:=aZ;have HX:=aY (hv x rfl);obtain⟨A,n,d,rfl⟩:=hs x bq;have HS:=aY hs;have HL:Hid ((F A n d :: l)[0]?=I (F A n d)):=aY rfl;generalize hL:F A n d :: l=L at *;have HNE:=aY hL;have H:Hid (mM c (L.drop 0++L.take 0) w'/\bf (λk=>k=c) w' w'):=aY ⟨by simpa using HC.aX,bf.rf _ _⟩;have HI:=aY HC.aX.lt;go_wp2_with fail
   go_loopw [10,11,12,13,33] (fun f _ _ _ i W=>∃j:Nat,j<=Q L/\i=G J j/\f=(if j=0 then F U 0 0 else F A n d)/\Hid (mM c (L.drop j++L.take j) W/\bf (fun k=>k=c) w' W)) (fun _ _ _ _ i _=>Q L-(aO i).toNat)
   case atStart=>exact⟨0,eO _,rfl,rfl,H⟩
   case round =>
    obtain⟨j,hj,rfl,rfl,S⟩:=hrel;by_cases V:j<Q L
    ·have cd:(j:Int)<Q L:=aZ;have hd:L.drop j++L.take j=L[j] :: (L.drop (j+1)++L.take j):=by rw[List.drop_eq_getElem_cons V];rfl
     have y:=WT c _ wr S.aX.1;rw[hd]at y;replace y:=aY y;obtain⟨R,T,d1,N⟩:=HS.aX _ (dG V);have z:=aY S.aX.2;have HE:Hid (j=0->F R T d1=F A n d):=aY λe=>by subst e;have:=HL.aX;rw[aE V,N]at this;injection this
     have O:Hid (L.drop (j+1)++L.take j++[F R T d1]=L.drop (j+1)++L.take (j+1)):=aY (by rw[ix V,N,fN]);rw[N]at y;by_cases hz:j=0
     ·have hz1:((j:Int)==0)=true:=Kv;have e9:=aY (HE.aX hz);rw[bT hz];go_wp2_with fail
      apply bN y.aX;rintro B⟨M,C⟩;have t:=MR c _ (F R T d1) B M;simp only[List.tail_cons,bT (show Q (L.drop (j+1)++L.take j)<8 by simp;omega),O.aX]at t;replace t:=aY t;replace z:=aY (z.aX.tr C);simp only[List.headD_cons,List.isEmpty_cons,Bool.not_false];go_wp2_with fail
      apply bN t.aX;rintro w4⟨V3,u4⟩;have H:=aY (aB V3 (z.aX.tr u4));go_wp2;go_roundw
      case rel=>exact⟨j+1,aZ,cU,by rw[e9.aX,bO (Nat.succ_ne_zero j)],H⟩
      case measure=>simp[aO];omega
     ·have hz1:((j:Int)==0)=false:=YU;rw[bO hz];go_wp2_with fail
      apply bN y.aX;rintro B⟨M,C⟩;have t:=MR c _ (F R T d1) B M;simp only[List.tail_cons,bT (show Q (L.drop (j+1)++L.take j)<8 by simp;omega),O.aX]at t;replace t:=aY t;replace z:=aY (z.aX.tr C);simp only[List.headD_cons,List.isEmpty_cons,Bool.not_false];go_wp2_with fail
      apply bN t.aX;rintro w4⟨V3,u4⟩;have H:=aY (aB V3 (z.aX.tr u4));go_wp2;go_roundw
      case rel=>exact⟨j+1,aZ,cU,by rw[bO (Nat.succ_ne_zero j)],H⟩
      case measure=>simp[aO];omega
    ·have cd:¬(j:Int)<Q L:=aZ;obtain rfl:j=Q L:=aZ;have hj0:Q L≠0:=λe=>by rw[e]at h0;cases h0
     obtain⟨A',d',e',hr⟩:=HX.aX wr S.aX.2;injection e' with N e2 e3;subst N e2 e3;have y:=aY (MD A (Q bs) d _ wr hr (xN bs) hn);have Y:Hid (mM c L wr/\bf (λk=>k=c) w' wr):=aY (by simpa using S.aX);rw[bO hj0];go_wp2_with fail
     apply dD y.aX;rintro v' w2⟨ho,k2⟩;have t:=MR c L v' w2 (Y.aX.1.cA (bf.bS k2 (λ_=>False)) id);simp only[bT h7]at t;replace t:=aY t;have hz:=Y.aX.2.size;have O:=aY (show Fx (λk=>k<Z (D w')) (λW=>sl bs v' W) w2 from λW u=>gD (ke ho u λk e h=>by have:=(ho.lt k e).1;omega));have z:=aY (Y.aX.2.tr (bf.bS k2 _));go_wp2_with fail
     apply bN t.aX;rintro B⟨M,C⟩;have H3:=aY (show (∃v',mM c (L++[v']) B/\Fx (λk=>k<Z (D w')) (λW=>sl bs v' W) B)/\bf (λk=>k=c) w' B from ⟨⟨v',M,O.aX.up C λk e=>e▸HI.aX⟩,z.aX.tr C⟩);go_wp2;exact X.aX _ H3.aX
end
section
variable {M C:Nat->Prop} {gn:Nat} {L:List lu} {W:aP} {a b:Int}
theorem au9(h:o6 M C gn L W) :
 aK prog 108 #[aj (I ⟨gn,0,U⟩),G J a,G J b] W λe w'=>e=ak (G J (vL L (a,b)).2)/\bf C W w'/\o6 M C gn (vL L (a,b)).1 w':=by
 have A:=aY (afs (a:=a) (b:=b) h)
 go_in
 go_wp2_with fail
 refine A.aX.mono ?_
 rintro e z⟨v,B,rfl,u,h⟩
 have y:Hid (B=(vL L (a,b)).2/\bf C W z/\o6 M C gn (vL L (a,b)).1 z):=aY (by
  unfold vL;rcases h with ⟨t,rfl,j⟩|⟨t,rfl,j⟩|⟨m,l,t,rfl,j,-⟩
  ·rw[t];exact⟨rfl,u,j⟩
  ·rw[t];exact⟨rfl,u,j⟩
  ·rw[t];exact⟨rfl,u,j⟩)
 go_wp2
 go_ret
 exact⟨by rw[y.aX.1];rfl,y.aX.2⟩
theorem ava(h:o6 M C gn L W)(T:∀q∈L,Q q.2<=8) :
 aK prog 110 #[aj (I ⟨gn,0,U⟩),G J a,G J b] W λe w'=>e=ak (G J (xh L (a,b)).2)/\bf C W w'/\o6 M C gn (xh L (a,b)).1 w':=by
 obtain⟨gm,bu,h⟩:=h
 have hU:=h.kn
 rcases Ky bu L (a,b) h.len (λi h1 t=>(h.ls i h1 t).1)with ⟨h1,t⟩|⟨i,h1,t,h3,O,h5⟩
 ·apply bN (aAm h.blk h.map Da);rintro w' rfl;unfold xh;rw[h1];exact Td
 ·obtain⟨c,vs,e,z,R,q3,y⟩:=(h.ls i h1 t).2;have mc:∀x∈vs,∃A n d,x=F A n d:=λx hx=>by
   obtain⟨j,hj,rfl⟩:=List.getElem_of_mem hx
   obtain⟨A,d,e,-⟩:=(y j hj aZ).2.now
   grind
  have hle:=T _ (dG t);apply bN (au8 h.blk h.map Da R mc aZ);rintro w'⟨V,u⟩;have hM:=h.sub c z;obtain⟨B,oh⟩:∃B,L[i].2=B:=⟨_,rfl⟩;simp only[oh]at O q3 y;unfold xh;rw[O];have key:∀l,Q (vs.tail++vs.take 1)=Q l->(∀(j:Nat) (hj:j<Q (vs.tail++vs.take 1)) (hj':j<Q l),Q l[j]<=1000000000/\Fx M (λW=>sl l[j] (vs.tail++vs.take 1)[j] W) w')->yS M C gn gm bu (jV L (a,b) l) w':=λl S X =>
   h.set h1 h3 e u ⟨c,_,e,z,V,S,X⟩
  have N:bf C W w':=u.more λk hk=>hk▸z
  cases B with
  | nil =>
   obtain rfl:vs=[]:=List.eq_nil_of_length_eq_zero NX;have e9:jV L (a,b) []=L:=List.ext_getElem Z8 λj g1 g2=>by exact al0
   exact⟨rfl,N,gm,bu,e9▸key [] bq (λj hj=>by simp at hj)⟩
  | cons m l =>
   cases vs with
   | nil=>simp at q3
   | cons x vs =>
    refine⟨rfl,N,gm,bu,key _ NX λj hj hj'=>?_⟩;have Y:Q vs=Q l:=NX;simp only[List.tail_cons,Tz,TG]at hj⊢;by_cases H:j<Q vs
    ·have:=y (j+1) (by simpa using H) cG;simp only[List.getElem_append_left H,List.getElem_append_left (show j<Q l by omega)];exact aaa
    ·have:=y 0 bq bq;obtain rfl:j=Q vs:=S6;simp only[List.getElem_concat_length,Y];exact aaa
theorem atW(h:o6 M C gn L W)(hl:∀k,M k->k<Z (D W))(hf:∀q∈L,Q q.2<=8) :
 aK prog 109 #[aj (I ⟨gn,0,U⟩),G J a,G J b] W λe w'=>e=ak (G J (wU L (a,b)).2)/\bf C W w'/\o6 M C gn (wU L (a,b)).1 w':=by
 obtain⟨gm,bu,h⟩:=h
 rcases Ky bu L (a,b) h.len (λi H N=>(h.ls i H N).1)with ⟨H,N⟩|⟨i,H,N,X,T,h5⟩
 ·apply bN (ayn h.blk h.map Da);rintro w' rfl;unfold wU;rw[H];exact Td
 ·obtain⟨c,vs,e,R,V,t,z⟩:=(h.ls i H N).2;have mc:∀x∈vs,∃A n d,x=F A n d:=λx hx=>by
   obtain⟨j,hj,rfl⟩:=List.getElem_of_mem hx
   obtain⟨A,d,e,-⟩:=(z j hj aZ).2.now
   grind
  have hle:=hf _ (dG N);have S:=h.sub c R;obtain⟨B,oh⟩:∃B,L[i].2=B:=⟨_,rfl⟩;simp only[oh]at T t z hle;refine (atV h.blk h.map Da V aZ (B.headD []) mc (λx hx=>?_) ?_).mono ?_
  ·cases vs with
   | nil=>cases hx
   | cons y vs =>
    cases B with
    | nil=>simp at t
    | cons m l => obtain rfl:y=x:=Nj;exact (z 0 bq bq).2.less λk e=>e▸S
  ·cases B with
   | nil=>simp
   | cons m l=>exact (z 0 (by simp only[fY]at t;omega) bq).1
  intro e w' hp;unfold JP at hp;unfold wU;rw[T];cases B with
  | nil => rw[bT (aI (List.eq_nil_of_length_eq_zero t))]at hp;obtain⟨rfl,rfl⟩:=hp;exact Td
  | cons m l =>
   simp only[fY]at t;by_cases h7:Q l=7
   ·rw[bT (aJ aZ)]at hp;obtain⟨rfl,rfl⟩:=hp;dsimp only;rw[bT h7];exact Td
   ·rw[bO (λh9=>h9.elim (λe=>by rw[e]at t;simp at t) λe=>aZ)]at hp;obtain⟨rfl,⟨v',hc,hF⟩,u⟩:=hp;dsimp only;rw[bO h7];have hm:=(z 0 aZ bq).1;refine⟨rfl,u.more λk hk=>hk▸R,gm,bu,h.set H X ic u ⟨c,_,ic,R,hc,cG,λj hj hj'=>?_⟩⟩;by_cases O:j<Q vs
    ·simp only[List.getElem_append_left O,List.getElem_append_left (show j<Q (m :: l) by simp;omega)];exact⟨(z j O cG).1,(z j O cG).2.up u λk e=>e▸S⟩
    ·obtain rfl:j=Q vs:=S6;have Y:(m :: l++[m])[Q vs]'hj'=m:=by rw[List.getElem_append_right (by simp;omega)];simp
     rw[Y];simp only[List.getElem_concat_length];exact⟨hm,hF.less hl⟩
end
def p7(O:cP)(f:List lu->Int×Int->List lu×Int)(a b:Int):cP×Int:=({ O with dR:=(f O.dR (a,b)).1 },(f O.dR (a,b)).2)
section
variable {W W2:aP} {H:nf} {own:Nat->Nat} {O:cP} {par bj:List Int} {gw k:Nat} {C aS:Nat->Prop}
theorem WJ{j fb:Nat}{a b:Int}{R:cP×Int}(h:cM H own O W eB)(z:H.vn=aj (I ⟨j,0,U⟩))(C:∀args W,(callFunc fb args).run prog W=.ok (.enter fb args) W)
 (y:aK prog fb #[aj (I ⟨j,0,U⟩),G J a,G J b] W λe w'=>e=ak (G J R.2)/\ew H own R.1 W w') :
 aK prog 107 #[aj (I ⟨H.gw,0,U⟩),G J a,G J b,.func (.func fb) #[] #[]] W λe w'=>e=ak (G J R.2)/\ew H own R.1 W w':=by
 have t:=aY y
 have q:=(h.gW p2).blk.cell
 rw[z]at q
 go_in
 go_wp2_with fail
 apply bN t.aX
 intro L A
 have B:=aY A
 go_wp2
 go_ret
 exact⟨rfl,B.aX⟩
theorem atX(h:cM H own O W eB) a b :
 aK prog 62 #[aj (I ⟨H.gw,0,U⟩),G J a,G J b] W λe w'=>e=ak (G J (p7 O vL a b).2)/\ew H own (p7 O vL a b).1 W w':=by
 obtain⟨C,t,j⟩:=h.dR (show eB 3 by grind [eB])
 have A:=aY (WJ (a:=a) (b:=b) (R:=p7 O vL a b) h t (fb:=108) (λ_ _=>rfl) ((au9 j).mono λe w' ⟨y,u,z⟩=>⟨y,h.TL t z u⟩))
 go_in
 go_wp2_with fail
 apply bN A.aX
 intro L j
 have B:=aY j
 go_wp2
 go_ret
 exact⟨rfl,B.aX⟩
theorem atY(h:cM H own O W eB)(A:∀q∈O.dR,Q q.2<=8) a b :
 aK prog 64 #[aj (I ⟨H.gw,0,U⟩),G J a,G J b] W λe w'=>e=ak (G J (p7 O xh a b).2)/\ew H own (p7 O xh a b).1 W w':=by
 obtain⟨L,t,j⟩:=h.dR (show eB 3 by grind [eB])
 have B:=aY (WJ (a:=a) (b:=b) (R:=p7 O xh a b) h t (fb:=110) (λ_ _=>rfl) ((ava j A).mono λe w' ⟨y,u,z⟩=>⟨y,h.TL t z u⟩))
 go_in
 go_wp2_with fail
 apply bN B.aX
 intro M j
 have C:=aY j
 go_wp2
 go_ret
 exact⟨rfl,C.aX⟩
theorem as4(h:cM H own O W eB)(A:∀q∈O.dR,Q q.2<=8) a b :
 aK prog 63 #[aj (I ⟨H.gw,0,U⟩),G J a,G J b] W λe w'=>e=ak (G J (p7 O wU a b).2)/\ew H own (p7 O wU a b).1 W w':=by
 obtain⟨L,t,j⟩:=h.dR (show eB 3 by grind [eB])
 have B:=aY (WJ (a:=a) (b:=b) (R:=p7 O wU a b) h t (fb:=109) (λ_ _=>rfl) ((atW j h.lo A).mono λe w' ⟨y,u,z⟩=>⟨y,h.TL t z u⟩))
 go_in
 go_wp2_with fail
 apply bN B.aX
 intro M j
 have C:=aY j
 go_wp2
 go_ret
 exact⟨rfl,C.aX⟩
theorem ag0(L:List lu)(j:∀q∈L,Q q.2<=8) k:(vL L k).1.map (·.1)=L.map (·.1)/\∀q∈(vL L k).1,Q q.2<=8:=by
 unfold vL;split
 ·exact⟨rfl,j⟩
 ·exact⟨rfl,j⟩
 ·next m l h =>
  have t:=j _ (FT h);exact⟨Nc _ _ _,Nd j (by simp at t;omega)⟩
theorem ag1(L:List lu)(hf:∀q∈L,Q q.2<=8) k:(xh L k).1.map (·.1)=L.map (·.1)/\∀q∈(xh L k).1,Q q.2<=8:=by
 unfold xh;split
 ·exact⟨rfl,hf⟩
 ·exact⟨rfl,hf⟩
 ·next m l h =>
  have h0:=hf _ (FT h);exact amr
theorem af6(L:List lu)(hf:∀q∈L,Q q.2<=8) k:(wU L k).1.map (·.1)=L.map (·.1)/\∀q∈(wU L k).1,Q q.2<=8:=by
 unfold wU;split
 ·exact⟨rfl,hf⟩
 ·exact⟨rfl,hf⟩
 ·next m l h =>
  have h0:=hf _ (FT h);split
  ·exact⟨rfl,hf⟩
  ·exact amr
theorem eK.drop(h:eK C par bj gw O k aS W) a b :
 aK prog 62 #[aj (I ⟨gw,0,U⟩),G J a,G J b] W λe w'=>e=ak (G J (p7 O vL a b).2)/\rJ C par bj gw (p7 O vL a b).1 k aS W w' :=
 h.go (args:=λp=>#[p,G J a,G J b]) (λH own j=>atX j a b) (h.1.dR (ag0 _ h.1.few _).1 (ag0 _ h.1.few _).2)
theorem eK.turn(h:eK C par bj gw O k aS W) a b :
 aK prog 64 #[aj (I ⟨gw,0,U⟩),G J a,G J b] W λe w'=>e=ak (G J (p7 O xh a b).2)/\rJ C par bj gw (p7 O xh a b).1 k aS W w' :=
 h.go (args:=λp=>#[p,G J a,G J b]) (λH own j=>atY j h.1.few a b) (h.1.dR (ag1 _ h.1.few _).1 (ag1 _ h.1.few _).2)
theorem eK.twice(h:eK C par bj gw O k aS W) a b :
 aK prog 63 #[aj (I ⟨gw,0,U⟩),G J a,G J b] W λe w'=>e=ak (G J (p7 O wU a b).2)/\rJ C par bj gw (p7 O wU a b).1 k aS W w' :=
 h.go (args:=λp=>#[p,G J a,G J b]) (λH own j=>as4 j h.1.few a b) (h.1.dR (af6 _ h.1.few _).1 (af6 _ h.1.few _).2)
end
structure eI where
 kind:Int
 a:Int
 b:Int
 n:Int
 e:List dW
 f:List eT
structure tP where
 err:Int
 id:cB
 status:Int
 batch:List (List dW)
 long:Int
 busy:Int
 up:Bool
 deriving DecidableEq
def gS(e:Int):tP:=⟨e,(0,0,0),0,[],0,0,az⟩
abbrev o8:=cP×List cB
def nQ(ids:List cB)(O:cP)(i:cB)(e:Int):o8×tP:=if e=0 then ((O,ids++[i]),⟨0,i,0,[],0,0,az⟩)else ((O,ids++[(0,0,0)]),gS e)
def qZ(ids:List cB)(n:Int):Option cB:=if 0<=n then ids[n.toNat]? else U
def fZ(s:o8)(x:eI):o8×tP :=
 if x.kind=1 then (((pw s.1 x.a).1,s.2),gS (pw s.1 x.a).2)
 else if x.kind=2 then (((nJ s.1 x.a x.b).1,s.2),gS (nJ s.1 x.a x.b).2)
 else if x.kind=3 then (((p7 s.1 vL x.a x.b).1,s.2),gS (p7 s.1 vL x.a x.b).2)
 else if x.kind=4 then (((p7 s.1 wU x.a x.b).1,s.2),gS (p7 s.1 wU x.a x.b).2)
 else if x.kind=5 then (((p7 s.1 xh x.a x.b).1,s.2),gS (p7 s.1 xh x.a x.b).2)
 else if x.kind=6 then (((Dc s.1 x.a).1,s.2),gS (Dc s.1 x.a).2)
 else if x.kind=7 then (((Cw s.1 x.a).1,s.2),gS (Cw s.1 x.a).2)
 else if x.kind=8 then ((EF s.1,s.2),gS 0)
 else if x.kind=9 then nQ s.2 (ph s.1 x.a).1 (ph s.1 x.a).2.1 (ph s.1 x.a).2.2
 else if x.kind=13 then (if x.b<0 then nQ s.2 s.1 (0,0,0) 1 else nQ s.2 (qY s.1 x.a x.b.toNat x.f).1 (qY s.1 x.a x.b.toNat x.f).2.1 (qY s.1 x.a x.b.toNat x.f).2.2)
 else if x.kind=14 then (if x.b<0 then nQ s.2 s.1 (0,0,0) 1 else nQ s.2 (qL s.1 x.a x.b.toNat).1 (qL s.1 x.a x.b.toNat).2.1 (qL s.1 x.a x.b.toNat).2.2)
 else if x.kind=16 then (((jE s.1 x.a).1,s.2),⟨(jE s.1 x.a).2.2,(0,0,0),0,(jE s.1 x.a).2.1,ED (jE s.1 x.a).1 x.a,0,az⟩)
 else if x.kind=17 then (s,⟨0,(0,0,0),0,[],Q (oC s.1 x.a).list,Dk s.1 x.a,(eF s.1 x.a).isSome⟩)
 else match qZ s.2 x.n with
  | none=>(s,gS 1)
  | some i =>
   if x.kind=10 then (((jB s.1 x.a i λl=>jq l i x.e).1,s.2),gS (jB s.1 x.a i λl=>jq l i x.e).2.2)
   else if x.kind=11 then (((jB s.1 x.a i λl=>jN l i).1,s.2),gS (jB s.1 x.a i λl=>jN l i).2.2)
   else if x.kind=12 then (((jB s.1 x.a i λl=>jO l i).1,s.2),gS (jB s.1 x.a i λl=>jO l i).2.2)
   else if x.kind=15 then (s,⟨(xQ s.1 x.a i).2,(0,0,0),(xQ s.1 x.a i).1,[],0,0,az⟩)
   else (s,gS 1)
def jS:o8->List eI->List tP
 | _,[]=>[]
 | s,x :: r=>(fZ s x).2 :: jS (fZ s x).1 r
def zm:o8->List eI->o8
 | s,[]=>s
 | s,x :: r=>zm (fZ s x).1 r
def i7(par bj:List Int)(room:Nat)(ops:List eI):List tP×Int :=
 if 500<Q ops then ([],1)else if mD par bj room=0 then (jS (lZ par bj room,[]) ops,0)else ([],mD par bj room)
theorem Hp:∀(l:List eI) s,Q (jS s l)=Q l
 | [],_=>rfl
 | x :: l,s=>by simp[jS,Hp l]
theorem ag2:∀(l m:List eI) s,jS s (l++m)=jS s l++jS (zm s l) m
 | [],_,_=>rfl
 | x :: l,m,s=>by simp[jS,zm,ag2 l]
theorem ahI:∀(l m:List eI) s,zm s (l++m)=zm (zm s l) m
 | [],_,_=>rfl
 | x :: l,m,s=>by simp[zm,ahI l]
def pS:ByteArray:=⟨#[112]⟩
def IX:List eI:=[⟨13,0,1,0,[],[(pS,8,0,0,⟨#[]⟩)]⟩,⟨9,0,0,0,[],[]⟩,⟨10,0,0,1,[(pS,1,5,⟨#[]⟩)],[]⟩,⟨11,0,0,1,[],[]⟩,⟨8,0,0,0,[],[]⟩,⟨8,0,0,0,[],[]⟩,⟨8,0,0,0,[],[]⟩,⟨16,0,0,0,[],[]⟩,⟨15,0,0,1,[],[]⟩,⟨17,1,0,0,[],[]⟩,⟨11,0,0,7,[],[]⟩,⟨99,0,0,0,[],[]⟩]
def anE:Bool:=match i7 [-1,0] [1] 10000 IX with
 | ([a0,a1,_,a3,_,_,_,a7,a8,a9,a10,GQ],e)=>decide (e=0/\a0.id.2.2=1/\a1.id.2.2=2/\a3.err=0/\Q a7.batch=1/\a7.long=2/\a8.status=3/\a9.long=2/\a9.busy=0/\a9.up=aA/\a10.err=1/\GQ.err=1)
 | _=>az
theorem ayo:anE=true:=by decide +kernel
section
open Go Go.RowKit Go.ChangeShapes Go.WideShapes Go.ChangeAt
def uB(c:eI):Prop:=cV c.kind/\cV c.a/\cV c.b/\cV c.n/\(∀a∈c.e,ny a)/\(∀t∈c.f,jF t)
abbrev im(c:eI)(ve vf:aQ):Array aQ:=#[G J c.kind,G J c.a,G J c.b,G J c.n,ve,vf]
def ly:fE eI where
 size:=6
 rel c cs w:=∃ve vf,cs=(im c ve vf).toList/\iT c.e ve w/\fQ c.f vf w
 len:=by rintro _ _ _⟨ve,vf,rfl,_⟩;rfl
 one:=by rintro x _ _⟨ve,vf,rfl,⟨_,_,rfl,_⟩,⟨_,_,rfl,_⟩⟩ u j;simp at j;rcases j with rfl|rfl|rfl|rfl|rfl|rfl <;> rfl
 st:=by rintro _ _ _ _⟨ve,vf,rfl,y,t⟩ k;exact⟨ve,vf,rfl,nL _ _ _ _ y k,fJ _ _ _ _ t k⟩
abbrev iW(x:tP)(vb:aQ):Array aQ:=#[G J x.err,G J x.id.1,G E (x.id.2.1:Int),G E (x.id.2.2:Int),G J x.status,vb,G J x.long,G J x.busy,ar x.up]
def vA:fE tP where
 size:=9
 rel x cs w:=∃j,cs=(iW x j).toList/\bw dS x.batch j w
 len:=by rintro _ _ _⟨j,rfl,_⟩;rfl
 one:=by rintro x _ _⟨j,rfl,⟨_,_,rfl,_⟩⟩ u hu;exact ai3
 st:=by rintro _ _ _ _⟨j,rfl,t⟩ k;exact⟨j,rfl,cH t k⟩
def ans(x:tP)(v:aQ)(w:aP):Prop:=∃j,v=av (iW x j)/\bw dS x.batch j w
end
def xi(x:eI):Nat:=if x.kind=8 then 588 else 1
def sN(l:List eI):Nat:=(l.map xi).sum
theorem ag3(l m:List eI):sN (l++m)=sN l+sN m:=by simp[sN]
theorem Xg(l:List eI) n:sN (l.take n)<=sN l:=by
 conv=>rhs;rw[<- List.take_append_drop n l,ag3]
 omega
section
variable {P:Program} {aR:Exit->Act->aP->Prop}
theorem WA{id:Nat}{ops:Array Oper}{A:Act}{w:aP}(m z:Nat)(c:aQ)(f:FuncId)(args:Array aQ)(Y:Nat->Prop)(C:aP->Prop){o:Oper}{H:List Nat×List (Nat×Nat)}{y:List (List Nat×List (Nat×Nat))}{n:Nat}
 (S:∀W W',C W->K W W'->C W') (hC:∀W,K w W->aK P f args W λe w'=>e=ak c/\bf Y W w'/\C w')
 (h:bA P A (bf Y w) (bf Y) [z] (λr xs t=>(∀W,tab t z c W)/\(∀V W,(∀j∈H.1,tab t j (V j) W)->(aL (bP H.2 A V) (bR o.op o.type)).run P W=.ok (.enter f args) W) /\
  ∀V W,bf Y w W->C W->dx V W 0 t->bJ P A (λV W=>aR .normal (iu V ops.toList 0 A) W) m r xs V W) m ops.toList y [])
 (hq:aaF ops=y:=by conv=>lhs;cbv) (hz:ops[z]?=I o:=by rfl) (hx:y[z]?=I H:=by rfl) (hg:o.guard=none:=by rfl)
 (hn:A.tmps.size=n:=by rfl) (hm:P.follows .mixedOrders=true:=by kernel_rfl) (hok:rL ops n=true:=by kernel_rfl) (hpl:tk ops y=true:=by kernel_rfl) (T:FU y m ops.size=true:=by kernel_rfl) (O:Df y [z] m=true:=by kernel_rfl) (R:m<=ops.size:=by decide) :
 (Code.region id ops aA).wp P aR A w :=
 Mw m [z] (bf Y w) (bf Y) (λk _ W=>if k=0 then K w W else C W) y n
  (λ_ _ h k=>h.tr (bf.bS k _)) (λ_ _ k=>bf.bS k _) (λk vs W W' h kW=>by
   split at h
   ·next B=>rw[bT B];exact h.tr kW
   ·next B=>rw[bO B];exact S _ _ h kW) (bf.rf _ _) (λ_=>K.rf w)
  (bA.imp (λr xs t ⟨B,h1,X⟩=>⟨⟨⟨o,H,hz,hx,hg,λV W M hK hp=>by
   rw[h1 V W hp];exact (hC W hK).mono λe w' ⟨N,u,L⟩=>⟨c,N,M.tr u,u,L,B _⟩⟩,trivial⟩,λV W M L hA=>X V W M L hA⟩) _ _ _ _ h) hn hm hok hpl T O bq R
theorem ar7{α:Type}{S:fE α}{Y:Nat->Prop}{base:Nat}{e:TypeId}{w:aP}{id:Nat}{ops:Array Oper}{y:Act}(m z:Nat)(l:List α)(v:aQ)(x:α)(B:TypeId){zv:aQ}{size bytes:Nat}(T:ir P B e zv size bytes){s u:Operand}{o:Oper}{C:List Nat×List (Nat×Nat)}{A:List (List Nat×List (Nat×Nat))}{n:Nat}
 (X:bK Y base e S l v w) (hb:base<=Z (D w)) (M:(Q l+1)*(bytes+1)<=140737488355328)
 (h:bA P y (oI v w) (λW W'=>W.grownBy W' (aW v)) [z] (λr xs t=>(∀v W,tab t z v W)/\(∀V W,oI v w W->(∀j∈C.1,tab t j (V j) W)->bP C.2 y V s=v/\fL (λk=>Y k∨aW v=I k) 0 e S x (bP C.2 y V u) W) /\
  ∀V W,oI v w W->bK Y base e S (l++[x]) (V z) W->(∀b,aW (V z)=I b->aW v=I b∨Z (D w)<=b)->dx V W 0 t->bJ P y (λV W=>aR .normal (iu V ops.toList 0 y) W) m r xs V W) m ops.toList A [])
 (hq:aaF ops=A:=by conv=>lhs;cbv) (hz:ops[z]?=I o:=by rfl) (O:A[z]?=I C:=by rfl) (L:o.op=.call { callee:=.builtin .append,args:=#[s,u],argTypes:=#[B,B] }:=by rfl) (hg:o.guard=none:=by rfl) (R:S.size=size:=by rfl)
 (hn:y.tmps.size=n:=by rfl) (hm:P.follows .mixedOrders=true:=by kernel_rfl) (hok:rL ops n=true:=by kernel_rfl) (N:tk ops A=true:=by kernel_rfl) (H:FU A m ops.size=true:=by kernel_rfl) (BR:Df A [z] m=true:=by kernel_rfl) (oh:m<=ops.size:=by decide) :
 (Code.region id ops aA).wp P aR y w:=FB m z l v x B T A n X hb M h hz O L hg R hn hm hok N H BR oh
end
def G9(x:tP):Prop:=Q x.batch<=1000000/\∀e∈x.batch,Q e<=1000000
section
variable {C C' aS Z':Nat->Prop} {par bj:List Int} {gp k j:Nat} {s s':o8} {W W':aP} {O':cP}
def gV(C:Nat->Prop)(par bj:List Int)(j:Nat)(s:o8)(k:Nat)(y:Nat->Prop)(W:aP):Prop :=
 (Q s.2<=k/\∀i∈s.2,dX i)/\∃gw t,bn W j 93 #[aj (I ⟨gw,0,U⟩),t]/\bK (λ_=>True) 0 42 dJ s.2 t W /\
  eK (λb=>C b∨b=j∨aW t=I b) par bj gw s.1 k y W/\¬C j/\∀b,aW t=I b->b≠j/\¬C b
theorem gV.to(h:gV C par bj gp s k aS W)(u:bf C W W')(z:∀b,Z' b->aS b∨Z (D W)<=b/\b<Z (D W'))(P:∀b,C' b->C b∨Z (D W)<=b/\b<Z (D W'))(O:∀b,Z (D W)<=b->Z' b->¬C' b):gV C' par bj gp s k Z' W':=by obtain⟨B,gw,L,hb,y,A,H,t⟩:=h;have:=hb.lt;have:=y.blk;refine⟨B,gw,L,hb.cA u H,y.to u (λ_ _=>trivial) (λb e=>(t b e).2) λ_ _ _=>aI trivial,A.to (u.more λ_ h=>aI h) z (λb hb=>?_) (λb hb hz j=>?_),λj=>?_,λb e=>⟨(t b e).1,λj=>?_⟩⟩;all_goals grind
theorem gV.lt(h:gV C par bj gp s k aS W):∀b,aS b∨C b->b<Z (D W):=λb hb=>by obtain⟨-,gw,t,-,-,j,-⟩:=h;exact j.lt b (hb.imp id aI)
theorem gV.st(h:gV C par bj gp s k aS W)(u:K W W'):gV C par bj gp s k aS W':=h.to (bf.bS u _) (λ_ h=>aI h) (λ_ h=>aI h) λb hb hz=>absurd (h.lt b (aI hz)) (by omega)
theorem gV.over(h:gV C par bj gp s k aS W):∃gw y,bn W gp 93 #[aj (I ⟨gw,0,U⟩),y]/\∃t:Nat->Prop,t gp/\(∀b,C b->t b)/\eK t par bj gw s.1 k aS W /\
 ∀ {W' O' j Z'},eK t par bj gw O' j Z' W'->bf (λb=>¬aS b/\¬t b) W W'->k<=j->gV C par bj gp (O',s.2) j Z' W':=by
 obtain⟨⟨M,B⟩,gw,y,hb,N,A,L,H⟩:=h
 refine⟨gw,y,hb,_,aJ (aI rfl),λ_ h=>aI h,A,λz u hk=>⟨⟨cI M hk,B⟩,gw,y,hb.cA u λh=>h.2 (aJ (aI rfl)),N.to u (λ_ _=>trivial) (λb e h=>h.2 (aJ (aJ e))) (λ_ _ _=>aI trivial),z,L,H⟩⟩
theorem gV.mono(h:gV C par bj gp s k aS W)(hk:k<=j):gV C par bj gp s j aS W:=by obtain⟨⟨A,y⟩,gw,B,hb,z,t,H⟩:=h;exact⟨⟨cI A hk,y⟩,gw,B,hb,z,⟨t.1.mono hk,t.2⟩,H⟩
theorem gV.push{O:cP}{ids:List cB}{gw:Nat}{j v':aQ}{i:cB}(M:Q ids+1<=k)(N:∀a∈ids,dX a)(R:dX i)(hb:bn W gp 93 #[aj (I ⟨gw,0,U⟩),j])(y:eK (λb=>C b∨b=gp∨aW j=I b) par bj gw O k aS W)(H:¬C gp)
 (L:∀b,aW j=I b->b<Z (D W)/\b≠gp/\¬C b) (u:oI j W W') (z:bK (λ_=>True) 0 42 dJ (ids++[i]) v' W') (hat:∀b,aW v'=I b->aW j=I b∨Z (D W)<=b) :
 gV C par bj gp (O,ids++[i]) k aS (aV W' ⟨gp,1,U⟩ v'):=by
 have:=hb.lt
 have B:=y.lt
 have A:=(hb.cA u λe=>(L _ e).2.1 rfl).cz 1 v'
 have t:bf (λb=>b=gp) W' (aV W' ⟨gp,1,U⟩ v'):=bf.dc (X:=λb=>b=gp) rfl 1 _
 have hz:=u.size
 have:=t.size
 have:=z.blk
 have hn:∀b,aW v'=I b->b≠gp/\¬C b:=λb e=>by
  grind
 refine⟨⟨bG,λa Y=>?_⟩,gw,v',A,z.to t (λ_ _=>trivial) (λb e h=>(hn b e).1 h) λ_ _ _=>aI trivial,y.to ((u.more λb e=>aJ (aJ e)).tr (t.more λb e=>aJ (aI e))) (λ_ h=>aI h) (λb h=>?_) (λb h hz=>absurd (B b (aI hz)) aZ),H,hn⟩
 all_goals grind
def K8(C:Nat->Prop)(par bj:List Int)(y:Nat)(z:o8)(A:Nat)(x:tP)(t:Nat->Prop)(W:aP)(e:Ending)(w':aP):Prop :=
 ∃va lo j,e=ak va/\Z (D W)<=lo/\lo<=j/\j<=Z (D w')/\Fx (λk=>k<lo∨j<=k) (λW=>ans x va W) w'/\G9 x/\gV C par bj y z A (λb=>t b∨lo<=b/\b<j) w'/\bf (λb=>¬t b/\¬C b) W w'
def vR(C:Nat->Prop)(par bj:List Int)(t:Nat)(z:o8)(y:Nat)(x:tP)(j:Nat->Prop)(W:aP)(e:Ending)(w':aP):Prop :=
 e=ak (av (iW x (F U 0 0)))/\x.batch=[]/\gV C par bj t z y j w'/\bf (λb=>¬j b/\¬C b) W w'
theorem vR.q{x e}(h:vR C par bj gp s' k x aS W e W'):K8 C par bj gp s' k x aS W e W':=by
 obtain⟨A,H,j,t⟩:=h;have y:=j.lt;have B:gV C par bj gp s' k (λb=>aS b∨Z (D W)<=b/\b<Z (D W)) W':=by refine j.to (bf.rf _ _) (λb hb=>aI (hb.elim id λh=>absurd h.1 aZ)) (λ_ h=>aI h) λb hb hz z=>absurd (y b (aJ z)) aZ
 exact⟨_,Z (D W),Z (D W),A,bL _,bL _,t.size,λ_ _=>⟨_,rfl,by grind [gN]⟩,by grind [G9],B,t⟩
def aoK(C:Nat->Prop)(par bj:List Int)(j g:Nat)(z A:Nat->Prop)(W W1:aP):Prop :=
 ∀t y (Z' Z2:Nat->Prop) w' (us:List aQ),Q us=9->(∀b,Z2 b->Z' b)->gV (λb=>C b∨b=g) par bj j t y Z' w'->bf (λb=>¬A b/\¬(C b∨b=g)) W1 w' ->
  gV C par bj j t y Z2 (dL w' g 0 us)/\bf (λb=>¬z b/\¬C b) W (dL w' g 0 us)/\∀i,(dL w' g 0 us).cell? ⟨g,i,U⟩=us.toArray[i]?
theorem gV.frame(h:gV C par bj gp s k aS W)(k1:K W W'){g}(hg:Z (D W)<=g){t cs}(hb:bn W' g t cs)(H:cs.size=9)(j:Nat->Prop)(N:∀b,aS b->j b)(A:∀b,j b->aS b∨Z (D W)<=b/\b<Z (D W')/\b≠g):gV (λb=>C b∨b=g) par bj gp s k j W'/\aoK C par bj gp g aS j W W':=by
 have:=hb.lt;have:=h.lt;refine⟨h.to (bf.bS k1 _) (λb hb=>(A b hb).imp id λh=>⟨h.1,h.2.1⟩) (λb hb=>hb.imp id λe=>aZ) λb hb hz y=>?_,λR V Z' T w' us L hz z u=>?_⟩
 ·grind
 have M:=hb.cA u λh=>h.2 (aJ rfl)
 have B:=λb hz=>z.lt b (aI hz)
 have u9:=bf.sets (X:=λk=>k=g) rfl us 0 w';exact⟨z.to (u9.more λ_ h=>aJ h) (λb h=>aI (hz b h)) (λ_ h=>aI (aI h)) λb hb h=>absurd (B b (hz b h)) aZ,
  ((bf.bS k1 _).tr (u.more λb h=>⟨λhz=>h.1 (N b hz),λy=>h.2 (aI y)⟩)).iA u9 λb hb e=>absurd hb aZ,(Cy M (L.trans H.symm)).cell⟩
end
section
variable {C aS:Nat->Prop} {par bj:List Int} {gp k:Nat} {s:o8} {W:aP} {O:cP} {ids:List cB}
abbrev Ee:Array aQ:=#[G J 0,G J 0,G E 0,G E 0,G J 0,F U 0 0,G J 0,G J 0,ar az]
theorem aAn(ids:List cB)(O:cP)(i:cB)(e:Int):∃j,(j=if e=0 then i else (0,0,0))/\nQ ids O i e=((O,ids++[j]),⟨e,j,0,[],0,0,az⟩):=by
 unfold nQ;by_cases t:e=0
 ·grind
 ·rw[bO t,bO t];exact⟨_,rfl,rfl⟩
theorem MI(h:gV C par bj gp (O,ids) k aS W)(hl:Q ids+1<=k)(hk:k<=1000000)(i:cB)(hi:dX i)(e:Int) :
 aK prog 123 #[aj (I ⟨gp,0,U⟩),di i,G J e] W (vR C par bj gp (nQ ids O i e).1 k (nQ ids O i e).2 aS W):=by
 obtain⟨j,B,hR⟩:=aAn ids O i e
 rw[hR]
 have fj:dX j:=by
  rw[B];split
  ·exact hi
  ·simp[dX,cV]
 have hz1:Z (D (aU W (aq (dZ j) 42)))=Z (D W)+1:=bq
 have L:=(bn.new W 42 (dZ j)).alloc (aq Ee 45)
 have z:=bn.new (aU W (aq (dZ j) 42)) 45 Ee
 have t:=K.lK W (aq (dZ j) 42) (aq Ee 45)
 rw[hz1]at z
 have HF:=aY (h.frame (g:=Z (D W)+1) t aZ z rfl aS (λ_ h=>h) λ_ h=>aI h).2
 obtain⟨⟨-,hfit⟩,gw,T,hb,A,R,hc,hv⟩:=h
 have D2:=λb hb=>(A.blk b hb).2
 have iR:=hb.lt
 replace R:=R.to (C':=λb=>(C b∨b=Z (D W)+1)∨b=gp∨aW T=I b) (bf.bS t _) (λ_ h=>aI h) (λb hb=>by
  rcases hb with (hb|hb)|hb
  ·exact aI (aI hb)
  ·exact aJ ⟨aZ,hb▸z.lt⟩
  ·exact aI (aJ hb)) λb hb hz=>absurd (R.lt b (aI hz)) aZ
 replace hb:=hb.below t iR
 replace A:=A.st t
 have hz:=t.size
 have Y:=aY R
 have HB:=aY (aB hb (aB L (aB z t)))
 have hq:∀X,oI T _ X->X.cell? ⟨gp,1,U⟩=I T:=λX u=>by rw[(hb.cA u λe=>(hv _ e).1 rfl).cell];rfl
 have gX:∀X,oI T _ X->∀n,X.cell? ⟨Z (D W),n,U⟩=(dZ j)[n]?:=λX u=>(L.cA u λe=>aaj).cell
 clear R hz1 hb L z t hR
 by_cases H:e=0
 case' pos =>
  obtain rfl:j=i:=by rw[B,bT H]
  have he':(e != 0)=false:=by simpa using H
  have ez:=True.intro;clear B H hi
 case' neg =>
  have he':(e != 0)=true:=by simpa using H
  rw[bO H]at B;have ej:dZ j=#[G J 0,G E 0,G E 0]:=by rw[B];rfl
  have ez:j.1=0/\j.2.1=0/\j.2.2=0:=by rw[B];exact⟨rfl,rfl,rfl⟩
  rw[ej]at hq gX HB A Y HF hz;clear H hi B
 all_goals
  go_in
  go_upto_region 3 with fail
  generalize ay (ay W _) _=W3 at *
  have qs:=aB hq gX
  refine ar7 8 7 ids T j 53 wg A (eO _) aZ ?_
  iterate 6 refine bA.i ?_
  refine bA.Gg (S:=dJ) (N:=λ_=>True) (Z (D W3)) wg j (λ_ h=>h.size) (λb hb=>⟨trivial,(A.blk b hb).2⟩) (λV X y hp=>?_) ?_
  ·simp only[dE,bU,bZ,dA,dB,bM]at hp;show vX _ _ _ (V 5) _;rw[hp.1];exact⟨rfl,λ_ _=>by first|rfl|exact congrArg Array.toList ej.symm⟩
  refine bA.s ?_
  clear qs
  refine⟨λ_ _=>trivial,λV X y hp=>?_,λV X y cR sE hA=>?_⟩
  ·simp only[dE,bU,bZ,dA,dB,bM]at hp;exact⟨hp.1,hp.2.1.less λ_ _=>trivial⟩
  simp only[bU,bZ,dx,bM,Nat.reduceAdd]at hA
  obtain⟨A9,c9,M⟩:=cR.slice
  replace M:V 7=F A9 (Q ids+1) c9:=by simpa using M
  obtain⟨hb,L,z,t⟩:=HB.aX
  have dy:=hb.cA y λe=>(hv _ e).1 rfl
  have HP:=aY (gV.push hl hfit fj hb Y.aX (λh=>h.elim hc λh=>aZ) (λb h=>⟨cQ (D2 b h) hz,(hv b h).1,λh2=>h2.elim (hv b h).2 λh2=>by have:=D2 b h;omega⟩) y cR sE)
  have u1:bf (λb=>b=gp) X (X.setCell ⟨gp,1,U⟩ (V 7)):=bf.dc (X:=λb=>b=gp) rfl 1 _
  have HU:=aY (show bf (λb=>¬aS b/\¬(C b∨b=Z (D W)+1)) W3 (X.setCell ⟨gp,1,U⟩ (V 7))from (y.more λb e=>⟨λh=>Y.aX.apart b h (aJ (aJ e)),λh=>h.elim (hv b e).2 λh=>by have:=D2 b e;omega⟩).tr (u1.more λb e=>⟨λh=>Y.aX.apart b h (aJ (aI e)),λh=>h.elim (λh=>hc (e▸h)) λh=>aZ⟩))
  have B1:=aY ((L.cA y λe=>aaj).cA u1 aZ)
  have B2:=aY ((z.cA y λe=>aaj).cA u1 aZ)
  rw[M]at HP HU B1 B2
  have hA:=aB hA M
  have qs:=aB (hq X y) dy.frozen
  clear hq gX A HB hb L z t dy u1 Y cR sE y
  refine bJ.p ?_
  refine bJ.p ?_
  refine bJ.s ?_
  refine bJ.h ?_
  clear hA qs M
  have eW:=aY (HF.aX _ _ _ aS _ [G J e,G J j.1,G E j.2.1,G E j.2.2,G J 0,F U 0 0,G J 0,G J 0,ar az] rfl (λ_ h=>h) HP.aX HU.aX)
  simp only[dL]at eW
  generalize X.setCell _ _=X9 at *
  have:=B1.aX.cell
  have:=B2.aX.frozen
  have:=B2.aX.cell
  clear HF HP HU
  try simp only[ez,Int.natCast_zero]at eW
  go_wp2
  obtain⟨hP,hU,e9⟩:=eW.aX
  refine aM (v:=av (iW ⟨e,j,0,[],0,0,az⟩ (F U 0 0))) (by simp[results,results123,go_sem,e9,ez]) rfl ?_
  exact⟨rfl,rfl,hP,hU⟩
end
section
variable {C aS:Nat->Prop} {par bj:List Int} {gp k:Nat} {s:o8} {W:aP} {O:cP} {ids:List cB}
def YO(j t:Nat->Prop)(g:Nat)(b:Nat):Prop:=¬(j b∨b=g)/\¬t b
structure OpF(C:Nat->Prop)(par bj:List Int)(gp gw:Nat)(s:o8)(k:Nat)(aS aT:Nat->Prop)(cs:Array aQ)(W W1:aP):Prop where
 k1:K W W1
 cell:∀X,bf (YO aS aT (Z (D W))) W1 X->X.cell? ⟨gp,0,U⟩=I (aj (I ⟨gw,0,U⟩))/\(∀n,X.cell? ⟨Z (D W),n,U⟩=cs[n]?)/\(∀n,X.cell? ⟨Z (D W)+1,n,U⟩=Ee[n]?)/\∀n,X.frozen? ⟨Z (D W)+1,n,U⟩=az
 ov:eK aT par bj gw s.1 k (λb=>aS b∨b=Z (D W)) W1
 vB:gV (λb=>C b∨b=Z (D W)+1) par bj gp s k (λb=>aS b∨b=Z (D W)) W1
 back:∀ {W' O' j Z'},eK aT par bj gw O' j Z' W'->bf (YO aS aT (Z (D W))) W1 W'->k<=j->gV (λb=>C b∨b=Z (D W)+1) par bj gp (O',s.2) j Z' W'
 up:∀ {X},bf (YO aS aT (Z (D W))) W1 X->bf (YO aS (λb=>C b∨b=Z (D W)+1) (Z (D W))) W1 X
 own:∀X,bf (YO aS (λb=>C b∨b=Z (D W)+1) (Z (D W))) W1 X->(∀n,X.cell? ⟨Z (D W),n,U⟩=cs[n]?)/\(∀n,X.cell? ⟨Z (D W)+1,n,U⟩=Ee[n]?)/\∀n,X.frozen? ⟨Z (D W)+1,n,U⟩=az
 fin:aoK C par bj gp (Z (D W)+1) aS (λb=>aS b∨b=Z (D W)) W W1
theorem gV.op(h:gV C par bj gp s k aS W)(cs:Array aQ):∃gw z,OpF C par bj gp gw s k aS z cs W ((aU W (aq cs 39)).alloc (aq Ee 45)):=by
 have M:Z (D (aU W (aq cs 39)))=Z (D W)+1:=bq;have t:=(bn.new W 39 cs).alloc (aq Ee 45);have j:=bn.new (aU W (aq cs 39)) 45 Ee;have A:=K.lK W (aq cs 39) (aq Ee 45);rw[M]at j;obtain⟨B,R⟩:=h.frame (g:=Z (D W)+1) A aZ j rfl (λb=>aS b∨b=Z (D W)) (λ_ h=>aI h) λb hb=>hb.imp id λe=>⟨aZ,by rw[e];exact t.lt,aZ⟩
 obtain⟨gw,S,hb,z,O,y,H,N⟩:=B.over;exact⟨gw,z,A,λX u=>⟨by rw[(hb.cA u λh=>h.2 O).cell];rfl,(t.cA u λh=>h.1 (aJ rfl)).cell,(j.cA u λh=>h.2 (y _ (aJ rfl))).cell,(j.cA u λh=>h.2 (y _ (aJ rfl))).frozen⟩,H,B,N,λu=>u.more λb h=>⟨h.1,λL=>h.2 (y b L)⟩,
  λX u=>⟨(t.cA u λh=>h.1 (aJ rfl)).cell,(j.cA u λh=>h.2 (aJ rfl)).cell,(j.cA u λh=>h.2 (aJ rfl)).frozen⟩,R⟩
theorem dh.aaz{O}(h:dh par bj O k) c(t:cJ->List fT×Int):dX (tF O c (0,0,0) λB=>jR B c (t B)).2.1:=by
 have j:dX (0,0,0):=aak;unfold tF;split
 ·split
  ·exact j
  ·next B hu =>
   dsimp only;unfold jR;split
   ·split
    ·exact (h.up hu).1.tocX.new
    ·exact j
   ·exact j
 ·exact j
theorem atZ(h:gV C par bj gp s k aS W)(hk:k<=40000)(c:eI)(hc:cV c.a) B N z M :
 aK prog 76 #[aj (I ⟨gp,0,U⟩),av (im c (F B (Q c.e) N) (F z (Q c.f) M))] W (vR C par bj gp (nQ s.2 (ph s.1 c.a).1 (ph s.1 c.a).2.1 (ph s.1 c.a).2.2).1 (k+1) (nQ s.2 (ph s.1 c.a).1 (ph s.1 c.a).2.1 (ph s.1 c.a).2.2).2 aS W):=by
 have:=h.1.1
 obtain⟨gw,O,H⟩:=h.op (im c (F B (Q c.e) N) (F z (Q c.f) M))
 have j:=aY H
 have HI:Hid (dX (ph s.1 c.a).2.1):=aY (H.ov.1.aaz c.a _)
 have:Hid (ph s.1 c.a=ph s.1 c.a):=aY rfl
 have C1:=aY λX (t:K _ X)=>(H.ov.st t).begin hk hc
 have hq:=λX u=>(H.cell X u).1
 have gX:=λX u=>(H.cell X u).2.1
 obtain⟨s1,ids⟩:=s
 generalize ph s1 c.a=R at *
 go_in
 go_upto_region 1 with fail
 generalize ay (ay W _) _=W1 at *
 have qs:=aB hq gX
 refine WA 10 7 (au #[di R.2.1,G J R.2.2]) 58 #[aj (I ⟨gw,0,U⟩),G J c.a] (YO aS O (Z (D W))) (λX=>eK O par bj gw R.1 (k+1) (λb=>aS b∨b=Z (D W)) X) (λ_ _ h k=>h.st k) (λX t=>(C1.aX X t).mono λe w' ⟨e1,h1,h2⟩=>⟨e1,h2,h1⟩) ?_
 iterate 7 refine bA.i ?_
 refine bA.kn (λv=>v=au #[di R.2.1,G J R.2.2]) ?_
 iterate 2 refine bA.i ?_
 refine⟨λ_=>rfl,λV X hp=>?_,λV X S hD hA=>?_⟩
 ·exact aal
 simp only[bU,bZ,dx,bM,Nat.reduceAdd]at hA
 have y:=j.aX.up S
 have CT:=aY (MI (j.aX.back hD S (aH k)) aZ aZ R.2.1 HI.aX R.2.2)
 generalize nQ ids R.1 R.2.1 R.2.2=T at *
 obtain⟨s2,x⟩:=T
 refine bJ.call 123 _ rfl aam ?_
 apply bN CT.aX
 rintro X2⟨fG,qG,A⟩
 refine⟨_,rfl,?_⟩
 obtain⟨-,Y,z2⟩:=j.aX.own X2 (y.tr A)
 have L:=aY (j.aX.fin _ _ _ aS _ (iW x (F U 0 0)).toList rfl (λ_ h=>aI h) qG (y.tr A))
 simp only[dL]at L
 have qs:=aB Y z2
 refine bJ.s ?_
 refine bJ.h ?_
 go_wp2
 obtain⟨hP,hU,e9⟩:=L.aX
 refine aM (v:=av (iW x (F U 0 0))) (by simp[results,results76,go_sem,e9]) rfl ?_
 exact⟨rfl,fG,hP,hU⟩
theorem awA(h:gV C par bj gp s k aS W)(hk:k<=40000)(c:eI)(hc:cV c.a)(hb:cV c.b)(hfit:∀t∈c.f,jF t)(dM:Q c.f<=1000000) Ae ce{A M}(hf:fQ c.f (F A (Q c.f) M) W) :
 aK prog 77 #[aj (I ⟨gp,0,U⟩),av (im c (F Ae (Q c.e) ce) (F A (Q c.f) M))] W (vR C par bj gp (if c.b<0 then nQ s.2 s.1 (0,0,0) 1 else nQ s.2 (qY s.1 c.a c.b.toNat c.f).1 (qY s.1 c.a c.b.toNat c.f).2.1 (qY s.1 c.a c.b.toNat c.f).2.2).1 (k+1) (if c.b<0 then nQ s.2 s.1 (0,0,0) 1 else nQ s.2 (qY s.1 c.a c.b.toNat c.f).1 (qY s.1 c.a c.b.toNat c.f).2.1 (qY s.1 c.a c.b.toNat c.f).2.2).2 aS W):=by
 have:=h.1.1
 obtain⟨gw,aT,H⟩:=h.op (im c (F Ae (Q c.e) ce) (F A (Q c.f) M))
 have j:=aY H
 obtain⟨O,ids⟩:=s
 by_cases hb0:c.b<0
 ·rw[bT hb0];have CT:=aY (MI (H.vB.mono (aH k)) bG aZ (0,0,0) aak 1);have B:=λX u=>(H.cell X u).2.1
  have q1:=B _ (bf.rf _ _);generalize nQ ids O (0,0,0) 1=T at *;obtain⟨s2,x⟩:=T;go_in;go_upto_region 1 with fail;generalize ay (ay W _) _=W1 at *;go_wp2_with fail
  apply bN CT.aX;rintro X2⟨Y,S,y⟩;obtain⟨-,q2,z2⟩:=j.aX.own X2 y;have z:=aY (j.aX.fin _ _ _ aS _ (iW x (F U 0 0)).toList rfl (λ_ h=>aI h) S y);simp only[dL]at z;go_wp2;obtain⟨N,hU,e9⟩:=z.aX;refine aM (v:=av (iW x (F U 0 0))) ams rfl ?_;exact⟨rfl,Y,N,hU⟩
 rw[bO hb0]
 obtain⟨n,hn⟩:=Int.eq_ofNat_of_zero_le (Int.not_lt.1 hb0)
 have abH:n<18446744073709551616:=by unfold cV at hb;omega
 have hw:E.wrap c.b=(n:Int):=amt
 have Qe:c.b.toNat=n:=aZ
 rw[Qe]
 have HI:Hid (dX (qY O c.a n c.f).2.1):=aY (H.ov.1.aaz c.a _)
 have C1:=aY λX (L:K _ X)=>(H.ov.st L).sub hk hc abH (fJ _ _ _ _ hf (H.k1.tr L)) hfit dM
 have hq:=λX u=>(H.cell X u).1
 have B:=λX u=>(H.cell X u).2.1
 have q1:=B _ (bf.rf _ _)
 generalize qY O c.a n c.f=R at *
 go_in
 go_upto_region 3 with fail
 generalize ay (ay W _) _=W1 at *
 have qs:=aB hq (aB B hw)
 refine WA 15 12 (au #[di R.2.1,G J R.2.2]) 23 #[aj (I ⟨gw,0,U⟩),G J c.a,G E (n:Int),F A (Q c.f) M] (YO aS aT (Z (D W))) (λX=>eK aT par bj gw R.1 (k+1) (λb=>aS b∨b=Z (D W)) X) (λ_ _ h k=>h.st k) (λX L=>(C1.aX X L).mono λe w' ⟨e1,h1,h2⟩=>⟨e1,h2,h1⟩) ?_
 iterate 12 refine bA.i ?_
 refine bA.kn (λv=>v=au #[di R.2.1,G J R.2.2]) ?_
 iterate 2 refine bA.i ?_
 refine⟨λ_=>rfl,λV X hp=>?_,λV X hX hD hA=>?_⟩
 ·exact aal
 simp only[bU,bZ,dx,bM,Nat.reduceAdd]at hA
 have hu:=j.aX.up hX
 have CT:=aY (MI (j.aX.back hD hX (aH k)) aZ aZ R.2.1 HI.aX R.2.2)
 generalize nQ ids R.1 R.2.1 R.2.2=T at *
 obtain⟨s2,x⟩:=T
 refine bJ.call 123 _ rfl aam ?_
 apply bN CT.aX
 rintro X2⟨Y,S,y⟩
 refine⟨_,rfl,?_⟩
 obtain⟨-,q2,z2⟩:=j.aX.own X2 (hu.tr y)
 have z:=aY (j.aX.fin _ _ _ aS _ (iW x (F U 0 0)).toList rfl (λ_ h=>aI h) S (hu.tr y))
 simp only[dL]at z
 have qs:=aB q2 z2
 refine bJ.s ?_
 refine bJ.h ?_
 go_wp2
 obtain⟨N,hU,e9⟩:=z.aX
 refine aM (v:=av (iW x (F U 0 0))) ams rfl ?_
 exact⟨rfl,Y,N,hU⟩
theorem at0(h:gV C par bj gp s k aS W)(hk:k<=40000)(c:eI)(hc:cV c.a)(hb:cV c.b) Ae ce Af cf :
 aK prog 78 #[aj (I ⟨gp,0,U⟩),av (im c (F Ae (Q c.e) ce) (F Af (Q c.f) cf))] W (vR C par bj gp (if c.b<0 then nQ s.2 s.1 (0,0,0) 1 else nQ s.2 (qL s.1 c.a c.b.toNat).1 (qL s.1 c.a c.b.toNat).2.1 (qL s.1 c.a c.b.toNat).2.2).1 (k+1) (if c.b<0 then nQ s.2 s.1 (0,0,0) 1 else nQ s.2 (qL s.1 c.a c.b.toNat).1 (qL s.1 c.a c.b.toNat).2.1 (qL s.1 c.a c.b.toNat).2.2).2 aS W):=by
 have:=h.1.1
 obtain⟨gw,aT,H⟩:=h.op (im c (F Ae (Q c.e) ce) (F Af (Q c.f) cf))
 have j:=aY H
 obtain⟨B,ids⟩:=s
 by_cases O:c.b<0
 ·rw[bT O];have CT:=aY (MI (H.vB.mono (aH k)) bG aZ (0,0,0) aak 1);have z:=λX u=>(H.cell X u).2.1
  have q1:=z _ (bf.rf _ _);generalize nQ ids B (0,0,0) 1=T at *;obtain⟨s2,x⟩:=T;go_in;go_upto_region 1 with fail;generalize ay (ay W _) _=W1 at *;go_wp2_with fail
  apply bN CT.aX;rintro S⟨N,L,t⟩;obtain⟨-,q2,z2⟩:=j.aX.own S t;have y:=aY (j.aX.fin _ _ _ aS _ (iW x (F U 0 0)).toList rfl (λ_ h=>aI h) L t);simp only[dL]at y;go_wp2;obtain⟨A,Y,e9⟩:=y.aX;refine aM (v:=av (iW x (F U 0 0))) amu rfl ?_;exact⟨rfl,N,A,Y⟩
 rw[bO O]
 obtain⟨n,hn⟩:=Int.eq_ofNat_of_zero_le (Int.not_lt.1 O)
 have abH:n<18446744073709551616:=by unfold cV at hb;omega
 have hw:E.wrap c.b=(n:Int):=amt
 have Qe:c.b.toNat=n:=aZ
 rw[Qe]
 have HI:Hid (dX (qL B c.a n).2.1):=aY (H.ov.1.aaz c.a _)
 have C1:=aY λX (M:K _ X)=>(H.ov.st M).aaI hk hc abH
 have hq:=λX u=>(H.cell X u).1
 have z:=λX u=>(H.cell X u).2.1
 have q1:=z _ (bf.rf _ _)
 generalize qL B c.a n=R at *
 go_in
 go_upto_region 3 with fail
 generalize ay (ay W _) _=W1 at *
 have qs:=aB hq (aB z hw)
 refine WA 13 10 (au #[di R.2.1,G J R.2.2]) 59 #[aj (I ⟨gw,0,U⟩),G J c.a,G E (n:Int)] (YO aS aT (Z (D W))) (λX=>eK aT par bj gw R.1 (k+1) (λb=>aS b∨b=Z (D W)) X) (λ_ _ h k=>h.st k) (λX M=>(C1.aX X M).mono λe w' ⟨e1,h1,h2⟩=>⟨e1,h2,h1⟩) ?_
 iterate 10 refine bA.i ?_
 refine bA.kn (λv=>v=au #[di R.2.1,G J R.2.2]) ?_
 iterate 2 refine bA.i ?_
 refine⟨λ_=>rfl,λV X hp=>?_,λV X hX hD hA=>?_⟩
 ·exact aal
 simp only[bU,bZ,dx,bM,Nat.reduceAdd]at hA
 have hu:=j.aX.up hX
 have CT:=aY (MI (j.aX.back hD hX (aH k)) aZ aZ R.2.1 HI.aX R.2.2)
 generalize nQ ids R.1 R.2.1 R.2.2=T at *
 obtain⟨s2,x⟩:=T
 refine bJ.call 123 _ rfl aam ?_
 apply bN CT.aX
 rintro S⟨N,L,t⟩
 refine⟨_,rfl,?_⟩
 obtain⟨-,q2,z2⟩:=j.aX.own S (hu.tr t)
 have y:=aY (j.aX.fin _ _ _ aS _ (iW x (F U 0 0)).toList rfl (λ_ h=>aI h) L (hu.tr t))
 simp only[dL]at y
 have qs:=aB q2 z2
 refine bJ.s ?_
 refine bJ.h ?_
 go_wp2
 obtain⟨A,Y,e9⟩:=y.aX
 refine aM (v:=av (iW x (F U 0 0))) amu rfl ?_
 exact⟨rfl,N,A,Y⟩
end
def Te(P:Program)(t:TypeId)(y:String):Option FuncId :=
 match (P.info? t).bind λi=>i.methods.find? λm=>m.name==y with
 | some m=>match m.path.toList,m.func with
  | [s],I (f,aA)=>match P.underlying s.struct with
   | some (.struct fs)=>match fs[s.index]? with
    | some j=>match P.underlying j.type,P.info? j.type with
     | some (.pointer _),I i=>if s.deref&&j.offset==0&&i.size==1 then I f else U
     | _,_=>U
    | _=>U
   | _=>U
  | _,_=>U
 | _=>U
theorem afw{P:Program}{t:TypeId}{j:String}{f:FuncId}(h:Te P t j=I f){X:aP}{g:Nat}{v:aQ}(q:X.cell? ⟨g,0,U⟩=I v)(n:Nat):(method (n+1) t (aj (I ⟨g,0,U⟩)) j).run P X=.ok (f,v) X:=by
 unfold Te at h
 cases hi:P.info? t with
 | none=>rw[hi]at h;cases h
 | some i =>
  rw[hi]at h
  simp only[Option.bind_some]at h
  cases hm:i.methods.find? λm=>m.name==j with
  | none=>rw[hm]at h;cases h
  | some m =>
   rw[hm]at h;dsimp only at h;split at h
   ·next s f' hp hf =>
    split at h
    ·next fs hu =>
     split at h
     ·next fl dM =>
      split at h
      ·next e i' jL hi2 =>
       split at h
       ·next hc =>
        injection h with h;subst h;simp only[fB,beq_iff_eq]at hc;obtain⟨⟨A,y⟩,z⟩:=hc;unfold method;simp[typeInfo,hi,hm,hp,hf,follow,run_underlying hu,dM,A,Place.get,go_sem,fieldPlace,sizeOf,hi2,z,y,receiverAt,run_underlying jL,q,isAgg]
       ·cases h
      ·cases h
     ·cases h
    ·cases h
   ·cases h
section
variable {C aS:Nat->Prop} {par bj:List Int} {gp k j:Nat} {s:o8} {W:aP}
theorem af7(h:gV C par bj gp s k aS W)(c:eI) M S L O{b}{V:String}{fb:FuncId}{T}(hb:bn W b T #[.func (.methodOf 91 V) #[] #[]])(hr:Te prog 91 V=I fb)(hf:∀args W,(callFunc fb args).run prog W=.ok (.enter fb args) W){R:cP}{z:Int}(hk:k<=j)
 (hc:∀A gw aS W,eK A par bj gw s.1 k aS W->aK prog fb #[aj (I ⟨gw,0,U⟩),G J c.a] W λe w'=>e=ak (G J z)/\rJ A par bj gw R j aS W w') :
 aK prog 121 #[aj (I ⟨gp,0,U⟩),av (im c (F M (Q c.e) S) (F L (Q c.f) O)),aj (I ⟨b,0,U⟩)] W (vR C par bj gp (R,s.2) j (gS z) aS W):=by
 obtain⟨gw,A,H⟩:=h.op (im c (F M (Q c.e) S) (F L (Q c.f) O))
 have y:=aY H
 have C1:=aY (hc _ _ _ _ H.ov)
 have hq:=(H.cell _ (bf.rf _ _)).1
 have:=(H.cell _ (bf.rf _ _)).2.1
 have:=(hb.bF H.k1).cell 0
 have HM:=aY (afw hr hq)
 have Y:=aY hf
 go_in
 go_upto_region 1 with fail
 generalize ay (ay W _) _=W1 at *
 go_wp2_with fail
 rw[HM.aX _,Result.andThen_ok,Y.aX]
 apply bN C1.aX
 rintro X2⟨X,u⟩
 have B:=y.aX.up u
 obtain⟨-,q2,z2⟩:=y.aX.own X2 B
 have N:=aY (y.aX.fin _ _ _ aS _ [G J z,G J 0,G E 0,G E 0,G J 0,F U 0 0,G J 0,G J 0,ar az] rfl (λ_ h=>aI h) (y.aX.back X u hk) B)
 simp only[dL]at N
 go_wp2
 obtain⟨hP,hU,e9⟩:=N.aX
 refine aM (v:=av (iW (gS z) (F U 0 0))) (by simp[results,results121,go_sem,e9,gS]) rfl ?_
 exact⟨rfl,rfl,hP,hU⟩
theorem MT(h:gV C par bj gp s k aS W)(c:eI) M S L O{b}{V:String}{fb:FuncId}{T}(hb:bn W b T #[.func (.methodOf 91 V) #[] #[]])(hr:Te prog 91 V=I fb)(hf:∀args W,(callFunc fb args).run prog W=.ok (.enter fb args) W){R:cP}{z:Int}(hk:k<=j)
 (hc:∀A gw aS W,eK A par bj gw s.1 k aS W->aK prog fb #[aj (I ⟨gw,0,U⟩),G J c.a,G J c.b] W λe w'=>e=ak (G J z)/\rJ A par bj gw R j aS W w') :
 aK prog 122 #[aj (I ⟨gp,0,U⟩),av (im c (F M (Q c.e) S) (F L (Q c.f) O)),aj (I ⟨b,0,U⟩)] W (vR C par bj gp (R,s.2) j (gS z) aS W):=by
 obtain⟨gw,A,H⟩:=h.op (im c (F M (Q c.e) S) (F L (Q c.f) O))
 have y:=aY H
 have C1:=aY (hc _ _ _ _ H.ov)
 have hq:=(H.cell _ (bf.rf _ _)).1
 have:=(H.cell _ (bf.rf _ _)).2.1
 have:=(hb.bF H.k1).cell 0
 have HM:=aY (afw hr hq)
 have Y:=aY hf
 go_in
 go_upto_region 1 with fail
 generalize ay (ay W _) _=W1 at *
 go_wp2_with fail
 rw[HM.aX _,Result.andThen_ok,Y.aX]
 apply bN C1.aX
 rintro X2⟨X,u⟩
 have B:=y.aX.up u
 obtain⟨-,q2,z2⟩:=y.aX.own X2 B
 have N:=aY (y.aX.fin _ _ _ aS _ [G J z,G J 0,G E 0,G E 0,G J 0,F U 0 0,G J 0,G J 0,ar az] rfl (λ_ h=>aI h) (y.aX.back X u hk) B)
 simp only[dL]at N
 go_wp2
 obtain⟨hP,hU,e9⟩:=N.aX
 refine aM (v:=av (iW (gS z) (F U 0 0))) (by simp[results,results122,go_sem,e9,gS]) rfl ?_
 exact⟨rfl,rfl,hP,hU⟩
theorem at1(h:gV C par bj gp s k aS W)(hp:Q par<=6)(hk:k+588<=40000)(c:eI) t z B L :
 aK prog 75 #[aj (I ⟨gp,0,U⟩),av (im c (F t (Q c.e) z) (F B (Q c.f) L))] W (vR C par bj gp (EF s.1,s.2) (k+588) (gS 0) aS W):=by
 obtain⟨gw,X,H⟩:=h.op (im c (F t (Q c.e) z) (F B (Q c.f) L))
 have j:=aY H
 have O:=aY (H.ov.round hp hk)
 have:=(H.cell _ (bf.rf _ _)).1
 go_in
 go_upto_region 1 with fail
 generalize ay (ay W _) _=W1 at *
 go_wp2_with fail
 apply bN O.aX
 rintro N⟨M,u⟩
 have y:=j.aX.up u
 obtain⟨-,V,Y⟩:=j.aX.own N y
 have A:=aY (j.aX.fin _ _ _ aS _ [G J 0,G J 0,G E 0,G E 0,G J 0,F U 0 0,G J 0,G J 0,ar az] rfl (λ_ h=>aI h) (j.aX.back M u (Nat.le_add_right _ _)) y)
 simp only[dL]at A
 go_wp2
 obtain⟨S,T,R⟩:=A.aX
 refine aM (v:=av (iW (gS 0) (F U 0 0))) (by simp[results,results75,go_sem,R,gS]) rfl ?_
 exact⟨rfl,rfl,S,T⟩
end
section
variable {C aS:Nat->Prop} {par bj:List Int} {gp k j:Nat} {s:o8} {W:aP}
theorem Ro(h:gV C par bj gp s k aS W)(n:Int) :
 aK prog 124 #[aj (I ⟨gp,0,U⟩),G J n] W λe w'=>e=ak (au #[di ((qZ s.2 n).getD (0,0,0)),ar (qZ s.2 n).isSome])/\K W w':=by
 obtain⟨s1,ids⟩:=s
 obtain⟨-,gw,vi,hb,V,-⟩:=h
 obtain⟨A,c,rfl,M,-⟩:=V.bw
 have q:=hb.cells
 have H:Hid (qZ ids n=if 0<=n then ids[n.toNat]? else U):=aY rfl
 have y:=bn.new W 42 #[G J 0,G E 0,G E 0]
 have k1:=y.cC
 have j:=aY λus (hu:Q us=3)=>aB (K.sets (r:=Z (D W)) (bL _) us 0 _ k1) (Cy (us:=us) y aZ).cell
 have:=y.cells _ (K.rf _)
 have:=y.frozen
 generalize qZ ids n=R at *
 dsimp only at M
 rcases (show n<0∨(¬n<0/\(Q ids:Int)<=n)∨(¬n<0/\n<(Q ids:Int)) by omega)with B|⟨B,X⟩|⟨B,X⟩
 rotate_left 2
 ·obtain⟨m,rfl⟩:=Int.eq_ofNat_of_zero_le (Int.not_lt.1 B);have hm:m<Q ids:=aZ;have hR:Hid (R=I ids[m]):=aY (by rw[H.aX,bT (by omega)];simp);obtain⟨L,N,cs,rfl,-,S,Y,d⟩:=eN M m hm bC;generalize ids[m]=i at *;have T:cs=gY i:=S W (K.rf W);subst T;have:∀t,t<3->(aU W (aq #[G J 0,G E 0,G E 0] 42)).cell? ⟨L,N+m*3+t,U⟩=(dZ i)[t]?:=λt O=>(d _ k1 t O).trans (show (gY i)[t]?=(dZ i)[t]? from aD)
  have:(aU W (aq #[G J 0,G E 0,G E 0] 42)).cell? ⟨L,N+m*3,U⟩=I (G J i.1):=Y _ k1;replace j:=aY (j.aX [G J i.1,G E i.2.1,G E i.2.2] rfl);simp only[dL]at j;replace q:=q _ k1;go_in;go_upto_region 1 with fail;generalize ay W _=W1 at *;go_wp2;obtain⟨z,e9⟩:=j.aX;refine aM (v:=au #[di i,ar aA]) amv rfl ?_;exact⟨Tf,z⟩
 all_goals
  have hR:Hid (R=U):=aY (by
   rw[H.aX];split
   ·exact List.getElem?_eq_none aZ
   ·rfl)
  replace j:=aY (j.aX [G J 0,G E 0,G E 0] rfl)
  simp only[dL]at j
  replace q:=q _ k1
  go_in
  go_upto_region 1 with fail
  generalize ay W _=W1 at *
  go_wp2
  obtain⟨z,e9⟩:=j.aX
  refine aM (v:=au #[di (0,0,0),ar az]) amv rfl ?_
  exact⟨Tf,z⟩
def y9(s:o8)(a n:Int)(f:cB->List fT->List fT×Int):o8×tP:=match qZ s.2 n with
 | none=>(s,gS 1)
 | some i=>(((jB s.1 a i (f i)).1,s.2),gS (jB s.1 a i (f i)).2.2)
theorem asr(h:gV C par bj gp s k aS W)(c:eI)(hel:Q c.e<=1000000)(hef:∀x∈c.e,ny x){B L}(he:iT c.e (F B (Q c.e) L) W) Af cf :
 aK prog 79 #[aj (I ⟨gp,0,U⟩),av (im c (F B (Q c.e) L) (F Af (Q c.f) cf))] W (vR C par bj gp (y9 s c.a c.n (λi l=>jq l i c.e)).1 (k+1) (y9 s c.a c.n (λi l=>jq l i c.e)).2 aS W):=by
 obtain⟨gw,aT,H⟩:=h.op (im c (F B (Q c.e) L) (F Af (Q c.f) cf))
 have M:=aY (Ro H.vB c.n)
 have JQ:=aY h.1.2
 have t:=aY H
 have:=(H.cell _ (bf.rf _ _)).2.1
 have HR:Hid (y9 s c.a c.n (λi l=>jq l i c.e)=match qZ s.2 c.n with|none=>(s,gS 1)|some i=>(((jB s.1 c.a i ((λi l=>jq l i c.e) i)).1,s.2),gS (jB s.1 c.a i ((λi l=>jq l i c.e) i)).2.2)):=aY rfl
 generalize y9 s c.a c.n (λi l=>jq l i c.e)=R at *
 have N:=aY λi (hi:dX i) X (j:K _ X)=>(H.ov.st j).Kx c.a hi (nL _ _ _ _ he (H.k1.tr j)) hel hef
 cases hn:qZ s.2 c.n with
 | none =>
  rw[hn]at M HR;go_in;go_upto_region 1 with fail;generalize ay (ay W _) _=W1 at *;go_wp2_with fail
  apply bN M.aX;intro A O;have y:=O.tr (K.new A (aq #[G J 0,G E 0,G E 0] 42));obtain⟨-,S,z2⟩:=t.aX.own _ (bf.bS y _);have z:=aY (t.aX.fin _ _ _ aS _ [G J 1,G J 0,G E 0,G E 0,G J 0,F U 0 0,G J 0,G J 0,ar az] rfl (λ_ h=>aI h) ((t.aX.vB.st y).mono (aH k)) (bf.bS y _));simp only[dL]at z;simp only[Option.getD_none,Option.isSome_none];go_upto_region 2 with fail;generalize A.alloc _=W3 at *;go_wp2;obtain⟨hP,hU,e9⟩:=z.aX;refine aM (v:=av (iW (gS 1) (F U 0 0))) amw rfl ?_;exact Ii
 | some i =>
  have fi:dX i:=JQ.aX i (by
   unfold qZ at hn;split at hn
   ·grind
   ·cases hn)
  rw[hn]at M HR;replace N:=aY (N.aX i fi);dsimp only at HR;generalize jB s.1 c.a i ((λi l=>jq l i c.e) i)=T at *;go_in;go_upto_region 1 with fail;generalize ay (ay W _) _=W1 at *;go_wp2_with fail
  apply bN M.aX;intro A O;have b3:=bn.new A 42 (dZ i);have y:=O.tr b3.cC;have hq:=λX (j:K _ X)=>(t.aX.cell X (bf.bS (y.tr j) _)).1
  have om:=λX (j:K _ X)=>(t.aX.cell X (bf.bS (y.tr j) _)).2.1
  have JR:=b3.cells;simp only[Option.getD_some,Option.isSome_some];go_upto_region 4 with fail;generalize A.alloc _=W3 at *;have qs:=aB hq (aB om JR);refine eQ 9 ?_;iterate 9 refine bA.i ?_
  refine λV X j hA=>?_
  simp only[bU,bZ,dx,bM,Nat.reduceAdd]at hA;refine bJ.call 66 #[aj (I ⟨gw,0,U⟩),G J c.a,di i,F B (Q c.e) L] rfl N0 ?_;apply bN (N.aX X (y.tr j));rintro X2⟨hV,u⟩;refine⟨_,rfl,?_⟩;have hu:bf (YO aS aT (Z (D W))) W1 X2:=(bf.bS (y.tr j) _).tr u;have Y:=t.aX.up hu;obtain⟨-,S,z2⟩:=t.aX.own X2 Y;have z:=aY (t.aX.fin _ _ _ aS _ [G J T.2.2,G J 0,G E 0,G E 0,G J 0,F U 0 0,G J 0,G J 0,ar az] rfl (λ_ h=>aI h) (t.aX.back hV hu (aH k)) Y);simp only[dL]at z;have qs:=aB S z2;refine bJ.p ?_;refine bJ.s ?_;refine bJ.h ?_;go_wp2;obtain⟨hP,hU,e9⟩:=z.aX;refine aM (v:=av (iW (gS T.2.2) (F U 0 0))) amw rfl ?_;exact Ii
theorem as5(h:gV C par bj gp s k aS W)(c:eI) Ae ce Y cf :
 aK prog 80 #[aj (I ⟨gp,0,U⟩),av (im c (F Ae (Q c.e) ce) (F Y (Q c.f) cf))] W (vR C par bj gp (y9 s c.a c.n (λi l=>jN l i)).1 (k+1) (y9 s c.a c.n (λi l=>jN l i)).2 aS W):=by
 obtain⟨gw,aT,H⟩:=h.op (im c (F Ae (Q c.e) ce) (F Y (Q c.f) cf))
 have B:=aY (Ro H.vB c.n)
 have JQ:=aY h.1.2
 have j:=aY H
 have:=(H.cell _ (bf.rf _ _)).2.1
 have HR:Hid (y9 s c.a c.n (λi l=>jN l i)=match qZ s.2 c.n with|none=>(s,gS 1)|some i=>(((jB s.1 c.a i ((λi l=>jN l i) i)).1,s.2),gS (jB s.1 c.a i ((λi l=>jN l i) i)).2.2)):=aY rfl
 generalize y9 s c.a c.n (λi l=>jN l i)=R at *
 have L:=aY λi (hi:dX i) X (t:K _ X)=>(H.ov.st t).KH c.a hi
 cases hn:qZ s.2 c.n with
 | none =>
  rw[hn]at B HR;go_in;go_upto_region 1 with fail;generalize ay (ay W _) _=W1 at *;go_wp2_with fail
  apply bN B.aX;intro A M;have y:=M.tr (K.new A (aq #[G J 0,G E 0,G E 0] 42));obtain⟨-,N,z2⟩:=j.aX.own _ (bf.bS y _);have z:=aY (j.aX.fin _ _ _ aS _ [G J 1,G J 0,G E 0,G E 0,G J 0,F U 0 0,G J 0,G J 0,ar az] rfl (λ_ h=>aI h) ((j.aX.vB.st y).mono (aH k)) (bf.bS y _));simp only[dL]at z;simp only[Option.getD_none,Option.isSome_none];go_upto_region 2 with fail;generalize A.alloc _=W3 at *;go_wp2;obtain⟨hP,hU,e9⟩:=z.aX;refine aM (v:=av (iW (gS 1) (F U 0 0))) amx rfl ?_;exact Ii
 | some i =>
  have fi:dX i:=JQ.aX i (by
   unfold qZ at hn;split at hn
   ·grind
   ·cases hn)
  rw[hn]at B HR;replace L:=aY (L.aX i fi);dsimp only at HR;generalize jB s.1 c.a i ((λi l=>jN l i) i)=T at *;go_in;go_upto_region 1 with fail;generalize ay (ay W _) _=W1 at *;go_wp2_with fail
  apply bN B.aX;intro A M;have b3:=bn.new A 42 (dZ i);have y:=M.tr b3.cC;have hq:=λX (t:K _ X)=>(j.aX.cell X (bf.bS (y.tr t) _)).1
  have om:=λX (t:K _ X)=>(j.aX.cell X (bf.bS (y.tr t) _)).2.1
  have JR:=b3.cells;simp only[Option.getD_some,Option.isSome_some];go_upto_region 4 with fail;generalize A.alloc _=W3 at *;have qs:=aB hq (aB om JR);refine eQ 7 ?_;iterate 7 refine bA.i ?_
  refine λV X t hA=>?_
  simp only[bU,bZ,dx,bM,Nat.reduceAdd]at hA;refine bJ.call 67 #[aj (I ⟨gw,0,U⟩),G J c.a,di i] rfl N0 ?_;apply bN (L.aX X (y.tr t));rintro X2⟨hV,u⟩;refine⟨_,rfl,?_⟩;have S:bf (YO aS aT (Z (D W))) W1 X2:=(bf.bS (y.tr t) _).tr u;have O:=j.aX.up S;obtain⟨-,N,z2⟩:=j.aX.own X2 O;have z:=aY (j.aX.fin _ _ _ aS _ [G J T.2.2,G J 0,G E 0,G E 0,G J 0,F U 0 0,G J 0,G J 0,ar az] rfl (λ_ h=>aI h) (j.aX.back hV S (aH k)) O);simp only[dL]at z;have qs:=aB N z2;refine bJ.p ?_;refine bJ.s ?_;refine bJ.h ?_;go_wp2;obtain⟨hP,hU,e9⟩:=z.aX;refine aM (v:=av (iW (gS T.2.2) (F U 0 0))) amx rfl ?_;exact Ii
theorem at2(h:gV C par bj gp s k aS W)(c:eI) Ae ce Y cf :
 aK prog 81 #[aj (I ⟨gp,0,U⟩),av (im c (F Ae (Q c.e) ce) (F Y (Q c.f) cf))] W (vR C par bj gp (y9 s c.a c.n (λi l=>jO l i)).1 (k+1) (y9 s c.a c.n (λi l=>jO l i)).2 aS W):=by
 obtain⟨gw,aT,H⟩:=h.op (im c (F Ae (Q c.e) ce) (F Y (Q c.f) cf))
 have B:=aY (Ro H.vB c.n)
 have JQ:=aY h.1.2
 have j:=aY H
 have:=(H.cell _ (bf.rf _ _)).2.1
 have HR:Hid (y9 s c.a c.n (λi l=>jO l i)=match qZ s.2 c.n with|none=>(s,gS 1)|some i=>(((jB s.1 c.a i ((λi l=>jO l i) i)).1,s.2),gS (jB s.1 c.a i ((λi l=>jO l i) i)).2.2)):=aY rfl
 generalize y9 s c.a c.n (λi l=>jO l i)=R at *
 have L:=aY λi (hi:dX i) X (t:K _ X)=>(H.ov.st t).abort c.a hi
 cases hn:qZ s.2 c.n with
 | none =>
  rw[hn]at B HR;go_in;go_upto_region 1 with fail;generalize ay (ay W _) _=W1 at *;go_wp2_with fail
  apply bN B.aX;intro A M;have y:=M.tr (K.new A (aq #[G J 0,G E 0,G E 0] 42));obtain⟨-,N,z2⟩:=j.aX.own _ (bf.bS y _);have z:=aY (j.aX.fin _ _ _ aS _ [G J 1,G J 0,G E 0,G E 0,G J 0,F U 0 0,G J 0,G J 0,ar az] rfl (λ_ h=>aI h) ((j.aX.vB.st y).mono (aH k)) (bf.bS y _));simp only[dL]at z;simp only[Option.getD_none,Option.isSome_none];go_upto_region 2 with fail;generalize A.alloc _=W3 at *;go_wp2;obtain⟨hP,hU,e9⟩:=z.aX;refine aM (v:=av (iW (gS 1) (F U 0 0))) amy rfl ?_;exact Ii
 | some i =>
  have fi:dX i:=JQ.aX i (by
   unfold qZ at hn;split at hn
   ·grind
   ·cases hn)
  rw[hn]at B HR;replace L:=aY (L.aX i fi);dsimp only at HR;generalize jB s.1 c.a i ((λi l=>jO l i) i)=T at *;go_in;go_upto_region 1 with fail;generalize ay (ay W _) _=W1 at *;go_wp2_with fail
  apply bN B.aX;intro A M;have b3:=bn.new A 42 (dZ i);have y:=M.tr b3.cC;have hq:=λX (t:K _ X)=>(j.aX.cell X (bf.bS (y.tr t) _)).1
  have om:=λX (t:K _ X)=>(j.aX.cell X (bf.bS (y.tr t) _)).2.1
  have JR:=b3.cells;simp only[Option.getD_some,Option.isSome_some];go_upto_region 4 with fail;generalize A.alloc _=W3 at *;have qs:=aB hq (aB om JR);refine eQ 7 ?_;iterate 7 refine bA.i ?_
  refine λV X t hA=>?_
  simp only[bU,bZ,dx,bM,Nat.reduceAdd]at hA;refine bJ.call 68 #[aj (I ⟨gw,0,U⟩),G J c.a,di i] rfl N0 ?_;apply bN (L.aX X (y.tr t));rintro X2⟨hV,u⟩;refine⟨_,rfl,?_⟩;have S:bf (YO aS aT (Z (D W))) W1 X2:=(bf.bS (y.tr t) _).tr u;have O:=j.aX.up S;obtain⟨-,N,z2⟩:=j.aX.own X2 O;have z:=aY (j.aX.fin _ _ _ aS _ [G J T.2.2,G J 0,G E 0,G E 0,G J 0,F U 0 0,G J 0,G J 0,ar az] rfl (λ_ h=>aI h) (j.aX.back hV S (aH k)) O);simp only[dL]at z;have qs:=aB N z2;refine bJ.p ?_;refine bJ.s ?_;refine bJ.h ?_;go_wp2;obtain⟨hP,hU,e9⟩:=z.aX;refine aM (v:=av (iW (gS T.2.2) (F U 0 0))) amy rfl ?_;exact Ii
end
section
variable {C aS:Nat->Prop} {par bj:List Int} {gp k j:Nat} {s:o8} {W:aP}
def TM(s:o8)(a n:Int):o8×tP:=match qZ s.2 n with
 | none=>(s,gS 1)
 | some i=>(s,⟨(xQ s.1 a i).2,(0,0,0),(xQ s.1 a i).1,[],0,0,az⟩)
theorem as6(h:gV C par bj gp s k aS W)(c:eI) Y ce S cf :
 aK prog 82 #[aj (I ⟨gp,0,U⟩),av (im c (F Y (Q c.e) ce) (F S (Q c.f) cf))] W (vR C par bj gp (TM s c.a c.n).1 (k+1) (TM s c.a c.n).2 aS W):=by
 obtain⟨gw,aT,H⟩:=h.op (im c (F Y (Q c.e) ce) (F S (Q c.f) cf))
 have B:=aY (Ro H.vB c.n)
 have t:=aY H
 have:=(H.cell _ (bf.rf _ _)).2.1
 have HR:Hid (TM s c.a c.n=match qZ s.2 c.n with|none=>(s,gS 1)|some i=>(s,⟨(xQ s.1 c.a i).2,(0,0,0),(xQ s.1 c.a i).1,[],0,0,az⟩)):=aY rfl
 generalize TM s c.a c.n=R at *
 have L:=aY λi X (j:K _ X)=>(H.ov.st j).status c.a i
 cases hn:qZ s.2 c.n with
 | none =>
  rw[hn]at B HR;go_in;go_upto_region 1 with fail;generalize ay (ay W _) _=W1 at *;go_wp2_with fail
  apply bN B.aX;intro A N;have y:=N.tr (K.new A (aq #[G J 0,G E 0,G E 0] 42));obtain⟨-,q2,z2⟩:=t.aX.own _ (bf.bS y _);have z:=aY (t.aX.fin _ _ _ aS _ [G J 1,G J 0,G E 0,G E 0,G J 0,F U 0 0,G J 0,G J 0,ar az] rfl (λ_ h=>aI h) ((t.aX.vB.st y).mono (aH k)) (bf.bS y _));simp only[dL]at z;simp only[Option.getD_none,Option.isSome_none];go_upto_region 2 with fail;generalize A.alloc _=W3 at *;go_wp2;obtain⟨hP,hU,O⟩:=z.aX;refine aM (v:=av (iW (gS 1) (F U 0 0))) (by simp[results,results82,go_sem,O,gS]) rfl ?_;exact Ii
 | some i =>
  rw[hn]at B HR;replace L:=aY (L.aX i);dsimp only at HR;generalize xQ s.1 c.a i=T at *;go_in;go_upto_region 1 with fail;generalize ay (ay W _) _=W1 at *;go_wp2_with fail
  apply bN B.aX;intro A N;have b3:=bn.new A 42 (dZ i);have y:=N.tr b3.cC;have hq:=λX (j:K _ X)=>(t.aX.cell X (bf.bS (y.tr j) _)).1
  have om:=λX (j:K _ X)=>(t.aX.cell X (bf.bS (y.tr j) _)).2.1
  have JR:=b3.cells;simp only[Option.getD_some,Option.isSome_some];go_upto_region 4 with fail;generalize A.alloc _=W3 at *;have qs:=aB hq (aB om JR);refine eQ 12 ?_;iterate 7 refine bA.i ?_
  refine bA.v (λX j=>L.aX X (y.tr j)) ?_;iterate 4 refine bA.i ?_
  refine λV X j hA=>?_
  simp only[bU,bZ,dx,bM,Nat.reduceAdd]at hA;have M:=y.tr j;obtain⟨-,q2,z2⟩:=t.aX.own X (bf.bS M _);have z:=aY (t.aX.fin _ _ _ aS _ [G J T.2,G J 0,G E 0,G E 0,G J T.1,F U 0 0,G J 0,G J 0,ar az] rfl (λ_ h=>aI h) ((t.aX.vB.st M).mono (aH k)) (bf.bS M _));simp only[dL]at z;have qs:=trivial;refine bJ.p ?_;refine bJ.h ?_;go_wp2;obtain⟨hP,hU,O⟩:=z.aX;refine aM (v:=av (iW ⟨T.2,(0,0,0),T.1,[],0,0,az⟩ (F U 0 0))) (by simp[results,results82,go_sem,O]) rfl ?_;exact⟨Ie,Ie,by rw[HR.aX];exact hP,hU⟩
theorem avb a b c d W:(Instr.field 61 (av #[a,b,c,d]) 1).run prog W=.ok b W:=by rfl
theorem avc(h:gV C par bj gp s k aS W)(c:eI) B N z M :
 aK prog 84 #[aj (I ⟨gp,0,U⟩),av (im c (F B (Q c.e) N) (F z (Q c.f) M))] W (vR C par bj gp s (k+1) ⟨0,(0,0,0),0,[],Q (oC s.1 c.a).list,Dk s.1 c.a,(eF s.1 c.a).isSome⟩ aS W):=by
 obtain⟨gw,aT,H⟩:=h.op (im c (F B (Q c.e) N) (F z (Q c.f) M))
 have y:=aY H
 have S:=aY λX (j:K _ X)=>(H.ov.st j).state c.a
 have C2:=aY λX (j:K _ X)=>(H.ov.st j).busy c.a
 have C3:=aY λX (j:K _ X)=>((H.ov.st j).up c.a).mono λe w' ⟨t,e2⟩=>show e=_/\K X w' from ⟨t,e2▸K.rf X⟩
 have Y:=λX (j:K _ X)=>(H.cell X (bf.bS j _)).1
 have om:=λX (j:K _ X)=>(H.cell X (bf.bS j _)).2.1
 generalize oC s.1 c.a=st at *
 generalize Dk s.1 c.a=O at *
 generalize (eF s.1 c.a).isSome=up at *
 go_in
 go_upto_region 1 with fail
 generalize ay (ay W _) _=W1 at *
 have qs:=aB Y om
 refine eQ 23 ?_
 iterate 6 refine bA.i ?_
 refine bA.c (λv _=>∃A cc vp va,v=av #[G E (st.life:Int),F A (Q st.list) cc,vp,va]) (λ_ _ _ h _=>h) (λX j=>(S.aX X j).mono λe w' ⟨vl,vp,va,t,hS,k9⟩=>by
  obtain⟨⟨Al,cl,rfl⟩,-,-⟩:=hS.sl;exact⟨_,t,⟨_,_,_,_,rfl⟩,k9⟩) ?_
 refine bA.op (λv _=>∃A cc,v=F A (Q st.list) cc) (λ_ _ _ h _=>h) (λV X j hp=>?_) ?_
 ·simp only[dE,bU,bZ,dA,dB,bM]at hp;obtain⟨⟨A,cc,vp,va,e⟩,-⟩:=hp;simp[dC,bP,aC,e,eH,aL,bR,ed,go_sem,avb]
 refine bA.is (G J (Q st.list:Int)) (λV X j hp=>?_) ?_
 ·simp only[dE,bU,bZ,dA,dB,bM]at hp;obtain⟨⟨A,cc,e⟩,-⟩:=hp;exact amz
 iterate 6 refine bA.i ?_
 refine bA.v C2.aX ?_
 iterate 6 refine bA.i ?_
 refine bA.v C3.aX ?_
 refine λV X j hA=>?_
 simp only[bU,bZ,dx,bM,Nat.reduceAdd]at hA
 obtain⟨-,R,z2⟩:=y.aX.own X (bf.bS j _)
 have L:=aY (y.aX.fin _ _ _ aS _ [G J 0,G J 0,G E 0,G E 0,G J 0,F U 0 0,G J (Q st.list:Int),G J (O:Int),ar up] rfl (λ_ h=>aI h) ((y.aX.vB.st j).mono (aH k)) (bf.bS j _))
 simp only[dL]at L
 have qs:=aB R z2
 refine bJ.p ?_
 refine bJ.s ?_
 refine bJ.h ?_
 go_wp2
 obtain⟨T,hU,e9⟩:=L.aX
 refine aM (v:=av (iW ⟨0,(0,0,0),0,[],(Q st.list:Int),(O:Int),up⟩ (F U 0 0))) (by simp[results,results84,go_sem,e9]) rfl ?_
 exact⟨rfl,rfl,T,hU⟩
end
section
variable {C aS:Nat->Prop} {par bj:List Int} {gp k j:Nat} {s:o8} {W:aP}
theorem dh.aC0{O}(h:dh par bj O k) c:Q (jE O c).2.1<=1000000/\∀e∈(jE O c).2.1,Q e<=1000000:=by
 unfold jE;split
 ·split
  ·simp
  ·next B hu =>
   dsimp only;split
   ·exact afv (h.up hu).1.tocX _ _
   ·simp
 ·simp
def Qt(t y:Nat->Prop)(par bj:List Int)(gw:Nat)(R:cP×List (List dW)×Int)(k:Nat)(Y:Nat->Prop)(W1:aP)(v:aQ)(X:aP):Prop :=
 ∃lo j,Z (D W1)<=lo/\lo<=j/\j<=Z (D X)/\Fx (λk=>k<lo∨j<=k) (λW=>bw dS R.2.1 v W) X/\eK t par bj gw R.1 k (λb=>y b∨lo<=b/\b<j) X/\bf Y W1 X
theorem Qt.st{y t Y:Nat->Prop}{gw R}{W1 X j:aP}{v}(h:Qt y t par bj gw R k Y W1 v X)(u:K X j):Qt y t par bj gw R k Y W1 v j:=by obtain⟨lo,B,C,A,H,L,z,h6⟩:=h;exact⟨lo,B,C,A,cI H u.size,L.k u,z.st u,h6.tr (bf.bS u _)⟩
theorem avd(h:gV C par bj gp s k aS W)(hk:k<=40000)(c:eI) Ae ce Af cf :
 aK prog 83 #[aj (I ⟨gp,0,U⟩),av (im c (F Ae (Q c.e) ce) (F Af (Q c.f) cf))] W (K8 C par bj gp ((jE s.1 c.a).1,s.2) (k+1) ⟨(jE s.1 c.a).2.2,(0,0,0),0,(jE s.1 c.a).2.1,ED (jE s.1 c.a).1 c.a,0,az⟩ aS W):=by
 obtain⟨gw,y,H⟩:=h.op (im c (F Ae (Q c.e) ce) (F Af (Q c.f) cf))
 have B:=aY H
 have HS:=aY (H.ov.1.aC0 c.a)
 have Fz:=aY λX Z' (N:eK y par bj gw (jE s.1 c.a).1 (k+1) Z' X)=>(N.aCZ c.a).mono λe w' ⟨S,T⟩=>show e=_/\K X w' from ⟨S,T▸K.rf X⟩
 have C1:=aY λX (j:K _ X)=>(H.ov.st j).aDC hk c.a
 have hq:=λX u=>(H.cell X u).1
 have gX:=λX u=>(H.cell X u).2.1
 generalize jE s.1 c.a=R at *
 generalize ED R.1 c.a=M at *
 go_in
 go_upto_region 1 with fail
 generalize ay (ay W _) _=W1 at *
 have qs:=aB hq gX
 refine QJ 11 [6] (bf (YO aS y (Z (D W))) W1) (λ_ _=>True) (λn vs X=>if n=0 then K W1 X else ∃A cc,vs=[au #[F A (Q R.2.1) cc,G J R.2.2]]/\Qt y (λb=>aS b∨b=Z (D W)) par bj gw R (k+1) (YO aS y (Z (D W))) W1 (F A (Q R.2.1) cc) X)
  [([],[]),([0],[(8,0)]),([1],[(9,1)]),([2],[(10,2)]),([],[]),([4],[(12,4)]),([3,5],[(11,3),(13,5)]),([6],[(14,6)]),([7],[(7,7)]),([7],[(7,7)]),([8],[(15,8)]),([0,1,2,3,4,5,6,7,8,9,10],[(16,9)])] 27 [] [(7,6,id),(8,7,K6),(9,7,K7),(10,8,id)]
  (λ_ _ h k=>h.tr (bf.bS k _)) (λ_ _ _=>trivial) (λn vs X t h j=>by
   split at h
   ·next h0=>rw[bT h0];exact h.tr j
   ·next h0 =>
    rw[bO h0];obtain⟨A,cc,e,Y⟩:=h;exact⟨A,cc,e,Y.st j⟩) (bf.rf _ _) (λ_=>K.rf W1) ?_
 iterate 6 refine bA.i ?_
 refine bA.kn (λv=>∃A cc,v=au #[F A (Q R.2.1) cc,G J R.2.2]) ?_
 refine bA.op (λv _=>∃A cc,v=au #[F A (Q R.2.1) cc,G J R.2.2]) (λ_ _ _ h _=>h) (λV X j hp=>?_) ?_
 ·exact Tg
 refine bA.op (λv _=>∃A cc,v=F A (Q R.2.1) cc) (λ_ _ _ h _=>h) (λV X j hp=>?_) ?_
 ·exact Tg
 refine bA.op (λv _=>v=G J R.2.2) (λ_ _ _ h _=>h) (λV X j hp=>?_) ?_
 ·exact Tg
 refine bA.op (λv _=>∃A cc,v=F A (Q R.2.1) cc) (λ_ _ _ h _=>h) (λV X j hp=>?_) ?_
 ·exact Tg
 refine⟨⟨⟨_,_,rfl,rfl,rfl,λV X hX hD hp=>?_⟩,trivial⟩,λk hk=>(by simp at hk),λz hz=>?_,λV X hX hD _ hE hA=>?_⟩
 ·simp only[dE,bU,bZ,dA,dB,bM]at hp;have hD:K W1 X:=S9;simp[bP,aC,hp,lO,aL,bR,go_sem];refine (C1.aX X hD).mono ?_;rintro e w'⟨v,L,rfl,h1,h2,h3,h4,h5⟩;obtain⟨A,cc,rfl,-⟩:=h3.now;exact⟨_,rfl,(bf.bS hD _).tr h5,⟨A,cc,rfl,Z (D X),L,hD.size,h1,h2,h3,h4,(bf.bS hD _).tr h5⟩,A,cc,rfl⟩
 ·simp at hz;rcases hz with rfl|rfl|rfl|rfl;all_goals refine⟨_,_,rfl,rfl,rfl,bq,λV X hX hp=>⟨X,?_⟩⟩
  all_goals simp only[dE,bU,bZ,dA,dB,bM]at hp
  ·exact Ta
  ·obtain⟨⟨A,cc,e⟩,-⟩:=hp;simp[bP,aC,e,aL,bR,go_sem,K6]
  ·obtain⟨⟨A,cc,e⟩,-⟩:=hp;simp[bP,aC,e,aL,bR,go_sem,K7]
  ·exact Ta
 simp only[bU,bZ,dx,bM,Nat.reduceAdd]at hA
 obtain⟨e0,S,T,e3,e4,e5,-⟩:=hA
 simp only[dE,id]at hE
 obtain⟨h7,h8,h9,nD,-⟩:=hE
 obtain⟨A,cc,e6,Y⟩:∃A cc,V 6=au #[F A (Q R.2.1) cc,G J R.2.2]/\Qt y (λb=>aS b∨b=Z (D W)) par bj gw R (k+1) (YO aS y (Z (D W))) W1 (F A (Q R.2.1) cc) X:=S9
 rw[h7,e6]at h8 h9
 rw[h8]at nD
 rw[e6]at h7
 simp only[K6,K7]at h8 h9 nD
 have hA:=aB e0 (aB S (aB T (aB e3 (aB e4 (aB e5 (aB e6 (aB h7 (aB h8 (aB h9 nD)))))))))
 have qs:=trivial
 refine bJ.p ?_
 refine bJ.h ?_
 obtain⟨lo,L,g1,g2,g3,hF,N,O⟩:=Y
 have HF:=aY hF
 have HV:=aY N
 have hqX:=λt (j:K X t)=>hq t (O.tr (bf.bS j _))
 have aE5:=λt (j:K X t)=>gX t (O.tr (bf.bS j _))
 go_upto_region 2 with fail
 have qs:=aB hqX aE5
 refine eQ 9 ?_
 iterate 8 refine bA.i ?_
 refine bA.v (λt j=>Fz.aX t _ (HV.aX.st j)) ?_
 refine λV t j hA=>?_
 simp only[bU,bZ,dx,bM,Nat.reduceAdd]at hA
 have jL:=O.tr (bf.bS j _)
 have huo:=B.aX.up jL
 obtain⟨-,q2,z2⟩:=B.aX.own t huo
 have eW:=aY (B.aX.fin _ _ _ (λb=>aS b∨lo<=b/\b<L) _ [G J R.2.2,G J 0,G E 0,G E 0,G J 0,F A (Q R.2.1) cc,G J M,G J 0,ar az] rfl (λb h=>h.imp aI id) (B.aX.back (HV.aX.st j) jL (aH k)) huo)
 have hg:Z (D W)+1<Z (D W1):=J7 ((B.aX.own W1 (bf.rf _ _)).2.1 0)
 have HX:Hid (Fx (λk=>k<lo∨L<=k) (λW=>bw dS R.2.1 (F A (Q R.2.1) cc) W) (dL t (Z (D W)+1) 0 [G J R.2.2,G J 0,G E 0,G E 0,G J 0,F A (Q R.2.1) cc,G J M,G J 0,ar az])):=aY ((HF.aX.k j).up (bf.sets (X:=λk=>k=Z (D W)+1) rfl _ 0 t) λk e=>aI aZ)
 have hsz:=aY (cI g3 (cI j.size (bf.sets (X:=λk=>k=Z (D W)+1) rfl [G J R.2.2,G J 0,G E 0,G E 0,G J 0,F A (Q R.2.1) cc,G J M,G J 0,ar az] 0 t).size))
 simp only[dL]at eW HX hsz
 have qs:=aB q2 z2
 refine bJ.p ?_
 refine bJ.s ?_
 refine bJ.h ?_
 go_wp2
 obtain⟨hP,hU,e9⟩:=eW.aX
 refine aM (v:=av (iW ⟨R.2.2,(0,0,0),0,R.2.1,M,0,az⟩ (F A (Q R.2.1) cc))) (by simp[results,results83,go_sem,e9]) rfl ?_
 exact⟨_,lo,L,rfl,aZ,g2,hsz.aX,HX.aX.mono λ_ h=>⟨_,rfl,h⟩,HS.aX,hP,hU⟩
end
abbrev s9(nm:String):aQ:=.func (.methodOf 91 nm) #[] #[]
abbrev Qu(b:Nat):aQ:=.func (.func 121) #[] #[aj (I ⟨b,0,U⟩)]
abbrev Cr(b:Nat):aQ:=.func (.func 122) #[] #[aj (I ⟨b,0,U⟩)]
abbrev rK(f:FuncId):aQ:=.func (.func f) #[] #[]
abbrev Uj(b1 b2 b3 b4 b5 b6 b7:Nat):List (Int×aQ):=[(1,Qu b1),(7,Qu b2),(2,Cr b3),(3,Cr b4),(4,Cr b5),(5,Cr b6),(6,Cr b7),(8,rK 75),(9,rK 76),(13,rK 77),(14,rK 78),(10,rK 79),(11,rK 80),(12,rK 81),(15,rK 82),(16,rK 83),(17,rK 84)]
structure aoL(gm b1 b2 b3 b4 b5 b6 b7:Nat)(W:aP):Prop where
 map:fC encI W gm (Uj b1 b2 b3 b4 b5 b6 b7)
 c1:bn W b1 144 #[s9 "Tick"]
 c2:bn W b2 144 #[s9 "Restart"]
 c3:bn W b3 146 #[s9 "Deliver"]
 c4:bn W b4 146 #[s9 "Drop"]
 c5:bn W b5 146 #[s9 "Twice"]
 c6:bn W b6 146 #[s9 "Turn"]
 c7:bn W b7 146 #[s9 "Crash"]
theorem rJ.mono{C t par bj gw O k j W W'}(h:rJ C par bj gw O k t W W')(hk:k<=j):rJ C par bj gw O j t W W':=⟨⟨h.1.1.mono hk,h.1.2⟩,h.2⟩
section
variable {C aS:Nat->Prop} {par bj:List Int} {gp k gm b1 b2 b3 b4 b5 b6 b7:Nat} {s:o8} {W:aP}
theorem aE6(h:gV C par bj gp s k aS W)(hm:aoL gm b1 b2 b3 b4 b5 b6 b7 W)(hp:Q par<=6)(c:eI)(hc:uB c)(hk:k+xi c<=40000)(hel:c.kind=10->Q c.e<=1000000)(dM:c.kind=13->Q c.f<=1000000){t z}(he:iT c.e (F t (Q c.e) z) W){j y}(hf:fQ c.f (F j (Q c.f) y) W) :
 eA (Uj b1 b2 b3 b4 b5 b6 b7) c.kind=U/\fZ s c=(s,gS 1) ∨
 ∃f cs,eA (Uj b1 b2 b3 b4 b5 b6 b7) c.kind=I (.func (.func f) #[] cs)/\(∀args W,(callFunc f args).run prog W=.ok (.enter f args) W) /\
  aK prog f (#[aj (I ⟨gp,0,U⟩),av (im c (F t (Q c.e) z) (F j (Q c.f) y))]++cs) W (K8 C par bj gp (fZ s c).1 (k+xi c) (fZ s c).2 aS W):=by
 obtain⟨f1,f2,f3,f4,f5,f6⟩:=hc
 have B:∀ {f cs s' x},aK prog f cs W (vR C par bj gp s' (k+1) x aS W)->aK prog f cs W (K8 C par bj gp s' (k+1) x aS W):=λh=>h.mono λe w' h=>h.q
 have A:c.kind≠8->xi c=1:=λh=>bO h
 have k1:1<=xi c:=by grind [xi]
 have M:k<=40000:=aZ
 by_cases z1:c.kind=1
 ·right;rw[A aZ];refine⟨_,_,by rw[z1];rfl,λ_ _=>rfl,?_⟩;simp only[fZ,z1];exact B (af7 h c t z j y hm.c1 cY (λ_ _=>rfl) (aH k) λR gw aS W H=>H.tick M c.a)
 by_cases z2:c.kind=2
 ·right;rw[A aZ];refine⟨_,_,by rw[z2];rfl,λ_ _=>rfl,?_⟩;simp only[fZ,z2];exact B (MT h c t z j y hm.c3 cY (λ_ _=>rfl) (aH k) λR gw aS W H=>H.EB M c.a c.b)
 by_cases z3:c.kind=3
 ·right;rw[A aZ];refine⟨_,_,by rw[z3];rfl,λ_ _=>rfl,?_⟩;simp only[fZ,z3];exact B (MT h c t z j y hm.c4 cY (λ_ _=>rfl) (aH k) λR gw aS W H=>(H.drop c.a c.b).mono λe w' ⟨N,O⟩=>⟨N,O.mono (aH k)⟩)
 by_cases z4:c.kind=4
 ·right;rw[A aZ];refine⟨_,_,by rw[z4];rfl,λ_ _=>rfl,?_⟩;simp only[fZ,z4];exact B (MT h c t z j y hm.c5 cY (λ_ _=>rfl) (aH k) λR gw aS W H=>(H.twice c.a c.b).mono λe w' ⟨N,O⟩=>⟨N,O.mono (aH k)⟩)
 by_cases z5:c.kind=5
 ·right;rw[A aZ];refine⟨_,_,by rw[z5];rfl,λ_ _=>rfl,?_⟩;simp only[fZ,z5];exact B (MT h c t z j y hm.c6 dz (λ_ _=>rfl) (aH k) λR gw aS W H=>(H.turn c.a c.b).mono λe w' ⟨N,O⟩=>⟨N,O.mono (aH k)⟩)
 by_cases z6:c.kind=6
 ·right;rw[A aZ];refine⟨_,_,by rw[z6];rfl,λ_ _=>rfl,?_⟩;simp only[fZ,z6];exact B (MT h c t z j y hm.c7 dz (λ_ _=>rfl) (aH k) λR gw aS W H=>(H.aaJ c.a c.b f3).mono λe w' ⟨N,O⟩=>⟨N,O.mono (aH k)⟩)
 by_cases z7:c.kind=7
 ·right;rw[A aZ];refine⟨_,_,by rw[z7];rfl,λ_ _=>rfl,?_⟩;simp only[fZ,z7];exact B (af7 h c t z j y hm.c2 dz (λ_ _=>rfl) (aH k) λR gw aS W H=>H.Z7 M c.a)
 by_cases V:c.kind=8
 ·right;have e8:xi c=588:=bT V;rw[e8]at hk⊢;refine⟨_,_,by rw[V];rfl,λ_ _=>rfl,?_⟩;simp only[fZ,V];exact (at1 h hp hk c t z j y).mono λe w' h=>h.q
 by_cases z9:c.kind=9
 ·right;rw[A aZ];refine⟨_,_,by rw[z9];rfl,λ_ _=>rfl,?_⟩;simp only[fZ,z9];exact B (atZ h M c f2 t z j y)
 by_cases T:c.kind=13
 ·right;rw[A aZ];refine⟨_,_,by rw[T];rfl,λ_ _=>rfl,?_⟩;simp only[fZ,T];exact B (awA h M c f2 f3 f6 (dM T) t z hf)
 by_cases V4:c.kind=14
 ·right;rw[A aZ];refine⟨_,_,by rw[V4];rfl,λ_ _=>rfl,?_⟩;simp only[fZ,V4];exact B (at0 h M c f2 f3 t z j y)
 by_cases V5:c.kind=16
 ·right;rw[A aZ];refine⟨_,_,by rw[V5];rfl,λ_ _=>rfl,?_⟩;simp only[fZ,V5];exact avd h M c t z j y
 by_cases z17:c.kind=17
 ·right;rw[A aZ];refine⟨_,_,by rw[z17];rfl,λ_ _=>rfl,?_⟩;simp only[fZ,z17];exact B (avc h c t z j y)
 by_cases S:c.kind=10
 ·right;rw[A aZ];refine⟨_,_,by rw[S];rfl,λ_ _=>rfl,?_⟩;simp only[fZ,S];exact B (asr h c (hel S) f5 he j y)
 by_cases V6:c.kind=11
 ·right;rw[A aZ];refine⟨_,_,by rw[V6];rfl,λ_ _=>rfl,?_⟩;simp only[fZ,V6];exact B (as5 h c t z j y)
 by_cases Y:c.kind=12
 ·right;rw[A aZ];refine⟨_,_,by rw[Y];rfl,λ_ _=>rfl,?_⟩;simp only[fZ,Y];exact B (at2 h c t z j y)
 by_cases X:c.kind=15
 ·right;rw[A aZ];refine⟨_,_,by rw[X];rfl,λ_ _=>rfl,?_⟩;simp only[fZ,X];exact B (as6 h c t z j y)
 left
 refine⟨?_,?_⟩
 ·simp[eA,iG,Ne.symm z1,Ne.symm z2,Ne.symm z3,Ne.symm z4,Ne.symm z5,Ne.symm z6,Ne.symm z7,Ne.symm V,Ne.symm z9,Ne.symm S,Ne.symm V6,Ne.symm Y,Ne.symm T,Ne.symm V4,Ne.symm X,Ne.symm V5,Ne.symm z17]
 ·simp only[fZ,z1,z2,z3,z4,z5,z6,z7,V,z9,S,V6,Y,T,V4,X,V5,z17,if_false];cases qZ s.2 c.n <;> rfl
end
structure EX(W:aP)(gm:Nat)(l:List (Int×aQ))(cs:List (Nat×TypeId×aQ))(X:aP):Prop where
 k:K W X
 g:Z (D W)<=gm
 m:fC encI X gm l
 c:∀p∈cs,Z (D W)<=p.1/\bn X p.1 p.2.1 #[p.2.2]
theorem EX.box{W j l cs X}(h:EX W j l cs X) T v:EX W j l ((Z (D X),T,v) :: cs) (X.alloc (aq #[v] T)) :=
 ⟨h.k.al _,h.g,h.m.st (K.new X _),λp hp=>by
  rcases List.mem_cons.1 hp with rfl|hp
  ·exact⟨h.k.size,bn.new X T #[v]⟩
  ·exact⟨(h.c p hp).1,(h.c p hp).2.alloc _⟩⟩
theorem EX.put{W t l cs X}(h:EX W t l cs X)(k:Int) v(hn:eA l k=U):∃j,(Instr.mapUpdate 94 (.map (I t)) (G J k) v).run prog X=.ok () j/\EX W t (l++[(k,v)]) cs j:=by
 obtain⟨j,r,m,g⟩:=FK (Dn (P:=prog) (kt:=3) underlying3) underlying94 h.m k v;rw[ahF hn]at m;have u:bf (λb=>b=t) X j:=bf.gy g λb e=>S8
 exact⟨j,r,u.k h.k λb e=>e▸h.g,h.g,m,λp hp=>⟨(h.c p hp).1,(h.c p hp).2.cA u λe=>by
  have:=h.m;rw[<- e]at this;exact this.cells (h.c p hp).2⟩⟩
theorem EX.fx{W j l cs X}(h:EX W j l cs X) p(hp:p∈cs) Y(u:bf (λb=>b<Z (D W)) X Y):bn Y p.1 p.2.1 #[p.2.2]:=(h.c p hp).2.cA u λe=>by have:=(h.c p hp).1;omega
theorem af8 j W:aK prog 73 #[s9 j] W λe w'=>e=ak (Qu (Z (D W)))/\w'=W.alloc (aq #[s9 j] 144):=XZ
theorem MU j W:aK prog 74 #[s9 j] W λe w'=>e=ak (Cr (Z (D W)))/\w'=W.alloc (aq #[s9 j] 146):=XZ
theorem aBP W:aK prog 35 #[] W λe w'=>∃B b1 b2 b3 T V b6 S,e=ak (.map (I B))/\Fx (λb=>b<Z (D W)) (aoL B b1 b2 b3 T V b6 S) w'/\K W w':=by
 have z:EX W (Z (D W)) [] [] (aU W (.map #[] 0)):=⟨K.new W _,bL _,fC.new W,λp hp=>by cases hp⟩;have R:=JV (P:=prog) underlying94 W;generalize O:Z (D W)=B at z R;have H:=aY z;have HG:=aY O;clear z O;go_in;go_wp2_with fail
 clear R;generalize W.alloc _=C at *;refine (af8 "Tick" C).mono ?_;rintro e w' ⟨rfl,rfl⟩;obtain ⟨N,r,h⟩:=(H.aX.box 144 (s9 "Tick")).put 1 (Qu (Z (D C))) cY;replace H:=aY h;clear h;go_wp2_with fail
 clear r;refine (af8 "Restart" N).mono ?_;rintro e w' ⟨rfl,rfl⟩;obtain ⟨M,r,h⟩:=(H.aX.box 144 (s9 "Restart")).put 7 (Qu (Z (D N))) cY;replace H:=aY h;clear h;go_wp2_with fail
 clear r;refine (MU "Deliver" M).mono ?_;rintro e w' ⟨rfl,rfl⟩;obtain ⟨L,r,h⟩:=(H.aX.box 146 (s9 "Deliver")).put 2 (Cr (Z (D M))) cY;replace H:=aY h;clear h;go_wp2_with fail
 clear r;refine (MU "Drop" L).mono ?_;rintro e w' ⟨rfl,rfl⟩;obtain ⟨A,r,h⟩:=(H.aX.box 146 (s9 "Drop")).put 3 (Cr (Z (D L))) cY;replace H:=aY h;clear h;go_wp2_with fail
 clear r;refine (MU "Twice" A).mono ?_;rintro e w' ⟨rfl,rfl⟩;obtain ⟨y,r,h⟩:=(H.aX.box 146 (s9 "Twice")).put 4 (Cr (Z (D A))) cY;replace H:=aY h;clear h;go_wp2_with fail
 clear r;refine (MU "Turn" y).mono ?_;rintro e w' ⟨rfl,rfl⟩;obtain ⟨t,r,h⟩:=(H.aX.box 146 (s9 "Turn")).put 5 (Cr (Z (D y))) cY;replace H:=aY h;clear h;go_wp2_with fail
 clear r;refine (MU "Crash" t).mono ?_;rintro e w' ⟨rfl,rfl⟩;obtain ⟨X7,r,h⟩:=(H.aX.box 146 (s9 "Crash")).put 6 (Cr (Z (D t))) cY;replace H:=aY h;clear h;obtain⟨X8,r8,h⟩:=H.aX.put 8 (rK 75) cY;replace H:=aY h;clear h;obtain⟨X9,r9,h⟩:=H.aX.put 9 (rK 76) cY;replace H:=aY h;clear h;obtain⟨X10,r10,h⟩:=H.aX.put 13 (rK 77) cY;replace H:=aY h;clear h;obtain⟨X11,r11,h⟩:=H.aX.put 14 (rK 78) cY;replace H:=aY h;clear h;obtain⟨X12,r12,h⟩:=H.aX.put 10 (rK 79) cY;replace H:=aY h;clear h;obtain⟨X13,r13,h⟩:=H.aX.put 11 (rK 80) cY;replace H:=aY h;clear h;obtain⟨X14,r14,h⟩:=H.aX.put 12 (rK 81) cY;replace H:=aY h;clear h;obtain⟨X15,r15,h⟩:=H.aX.put 15 (rK 82) cY;replace H:=aY h;clear h;obtain⟨X16,r16,h⟩:=H.aX.put 16 (rK 83) cY;replace H:=aY h;clear h;obtain⟨X17,r17,h⟩:=H.aX.put 17 (rK 84) cY;replace H:=aY h;clear h;go_wp2;go_ret;obtain⟨h1,z,X,h3⟩:=H.aX;have j:=H.aX.fx;exact⟨B,Z (D C),Z (D N),Z (D M),Z (D L),Z (D A),Z (D y),Z (D t),rfl,fun Y u=>(by
  rw[<- HG.aX]at u;exact⟨X.cA u aZ,j (Z (D C),_,_) bq Y u,j (Z (D N),_,_) bq Y u,j (Z (D M),_,_) bq Y u,j (Z (D L),_,_) bq Y u,j (Z (D A),_,_) bq Y u,j (Z (D y),_,_) bq Y u,j (Z (D t),_,_) bq Y u⟩),h1⟩
theorem TAn:ir prog 28 45 (av Ee) 9 88:=⟨underlying28,dz,rfl,bC⟩
theorem ayp{ops:List eI}{j}(t:j<Q ops) s:jS s (ops.take (j+1))=jS s (ops.take j)++[(fZ (zm s (ops.take j)) ops[j]).2]/\zm s (ops.take (j+1))=(fZ (zm s (ops.take j)) ops[j]).1/\sN (ops.take (j+1))=sN (ops.take j)+xi ops[j]:=by rw[ix t,ag2,ahI,ag3];exact⟨rfl,rfl,rfl⟩
theorem aBQ W:(zeroValue 96).run prog W=.ok .nilFunc W:=by rfl
structure Uk(par bj:List Int)(room:Nat)(w w5:aP)(gp lo:Nat)(ops:List eI)(j:Nat)(vo:aQ)(W:aP):Prop where
 vB:∃s k aS,gV (λb=>aW vo=I b) par bj gp s k aS W/\bK (λb=>¬aS b) 0 45 vA (jS (lZ par bj room,[]) (ops.take j)) vo W/\s=zm (lZ par bj room,[]) (ops.take j)/\k=sN (ops.take j) /\
  ∀b,b<Z (D w)∨lo<=b/\b<Z (D w5)->aS b
 sm:∀x∈jS (lZ par bj room,[]) (ops.take j),G9 x
 k:K w W
 u:bf (λb=>b<lo) w5 W
 row:∀b,aW vo=I b->Z (D w5)<=b
structure IY(par bj:List Int)(w w5:aP)(gp lo:Nat)(l:List tP)(vo:aQ)(ga:Nat)(s:o8)(k:Nat)(x:tP)(vb:aQ)(aS:Nat->Prop)(W:aP):Prop where
 vB:gV (λb=>aW vo=I b∨b=ga) par bj gp s k aS W
 out:bK (λb=>¬aS b) 0 45 vA l vo W
 fx:Fx (λb=>¬aS b∨aW vo=I b) (λW=>bw dS x.batch vb W) W
 sub:∀b,b<Z (D w)∨lo<=b/\b<Z (D w5)->aS b
 sm:G9 x
 k:K w W
 u:bf (λb=>b<lo) w5 W
 blk:bn W ga 45 (iW x vb)
 row:∀b,aW vo=I b->Z (D w5)<=b
theorem IY.call{par bj w z H lo l y j s R k k' x t W W3}(S:gV (λb=>aW y=I b∨b=j) par bj H s k t W)(hO:bK (λb=>¬t b) 0 45 vA l y W)(O:∀b,b<Z (D w)∨lo<=b/\b<Z (D z)->t b)(hk:K w W)(hu:bf (λb=>b<lo) z W){L}(V:bn W j 45 L)(hac:L.size=9)(hrow:∀b,aW y=I b->Z (D z)<=b/\b≠j)(h5:Z (D z)<=j)(hw:Z (D w)<=Z (D z)){e}
 (h:K8 (λb=>aW y=I b∨b=j) par bj H R k' x t W e W3):∃A n cc Z',e=ak (av (iW x (F A n cc)))/\IY par bj w z H lo l y j R k' x (F A n cc) Z' (dL W3 j 0 (iW x (F A n cc)).toList)/\bn W3 j 45 L:=by
 obtain⟨va,B,M,rfl,g1,g2,g3,hF,gG,Y,C⟩:=h
 obtain⟨vb,rfl,hb⟩:=hF.now
 obtain⟨A,cc,rfl,-⟩:=hb
 have oW:=V.lt
 have hrl:=λb hb=>(hO.blk b hb).2
 have hap:=S.lt
 have T:¬t j:=λhz=>by obtain⟨-,gw,vi,-,-,hV,-⟩:=S;exact hV.apart j hz (aI (aJ rfl))
 have Ms:=V.cA C λh=>h.2 (aJ rfl)
 have u9:=bf.sets (X:=λb=>b=j) rfl (iW x (F A (Q x.batch) cc)).toList 0 W3
 have dH:=hO.to C (λb h=>h.1) (λb hb h=>h.2 (aI hb)) (Y':=λb=>¬(t b∨B<=b/\b<M)) λb _ h=>aI λhz=>h (aI hz)
 have Jy:Fx (λb=>¬(t b∨B<=b/\b<M)∨aW y=I b) (λW=>bw dS x.batch (F A (Q x.batch) cc) W) W3:=(hF.mono λW h=>by
  obtain⟨vb,e,h⟩:=h;injection e with e;have:=congrArg (·[5]?) e;simp at this;rw[this];exact h).less λb hb=>by
   rcases hb with hb|hb
   ·by_cases N:b<B
    ·exact aI N
    ·exact aJ (Nat.not_lt.1 λh2=>hb (aJ ⟨aZ,h2⟩))
   ·have:=hrl b hb;exact aI aZ
 refine⟨A,Q x.batch,cc,λb=>t b∨B<=b/\b<M,rfl,⟨Y.to (u9.more λ_ h=>aJ h) (λ_ h=>aI h) (λ_ h=>aI h) λb hb hz=>absurd (Y.lt b (aI hz)) aZ,dH.to u9 (λb hb h=>?_) (λb hb e=>(hrow b hb).2 e) λb _ h=>aI h,
  Jy.up u9 λb e=>aI λhz=>?_,λb hb=>aI (O b hb),gG,?_,?_,Cy Ms (by rw[hac];rfl),λb hb=>(hrow b hb).1⟩,Ms⟩
 ·subst hb;exact h.elim T λh=>aZ
 ·subst e;exact hz.elim T λh=>aZ
 ·exact K.sets aZ _ 0 _ (C.k hk λb hb=>Nat.le_of_not_lt λh=>hb.1 (O b (aI h)))
 ·exact (hu.iA C λb hb h=>Nat.lt_of_not_le λN=>h.1 (O b (aJ ⟨N,hb⟩))).iA u9 λb hb e=>absurd hb aZ
theorem IY.push{par bj room w C M lo ops j l t z ga s k x vb A W H L}(h:IY par bj w C M lo l t ga s k x vb A W)(O:K W H)(S:bK (λb=>¬A b) 0 45 vA (l++[x]) z L)(hg:H.grownBy L (aW t))(T:aW z=aW t∨aW z=I (Z (D H)))(Y:Z (D w)<=Z (D C))
 (N:jS (lZ par bj room,[]) (ops.take (j+1))=l++[x]) (e2:zm (lZ par bj room,[]) (ops.take (j+1))=s) (e3:sN (ops.take (j+1))=k) (V:∀y∈l,G9 y):Uk par bj room w C M lo ops (j+1) z L:=by
 have ug:=bf.gy (X:=λb=>aW t=I b) hg λ_ h=>h
 have B:=(bf.bS O (λb=>aW t=I b)).tr ug
 have hz:=O.size
 have:=h.u.size
 have dt:=λb hb=>(S.blk b hb).2
 refine⟨⟨s,k,A,h.vB.to (B.more λ_ h=>aI h) (λ_ h=>aI h) (λb hb=>?_) (λb hb hz=>absurd (h.vB.lt b (aI hz)) aZ),N▸S,e2.symm,e3.symm,h.sub⟩,by
  rw[N];intro y R;rw[De,List.mem_singleton]at R;exact R.elim (V y) λe=>e▸h.sm,B.k h.k λb hb=>cI Y (h.row b hb),h.u.iA B λb hb e=>absurd (h.row b e) aZ,λb hb=>?_⟩
 ·rcases T with e|e
  ·exact aI (aI (e▸hb))
  ·rw[e]at hb;injection hb with hb;have:=dt b (by rw[e,hb]);exact aJ ⟨aZ,aZ⟩
 ·rcases T with e|e
  ·exact h.row b (e▸hb)
  ·rw[e]at hb;injection hb with hb;omega
theorem Em par bj(room:Nat)(ops:List eI) v1 v2 v3 w(h1:bw eu par v1 w)(h2:bw eu bj v2 w)(h3:bw ly ops v3 w)(hfit:∀c∈ops,uB c)(hp:Q par<=6)(hh:Q bj<=1000000)(hr:room<=1048576)(rU:sN ops<=40000)(hel:∀c∈ops,(c.kind=10->Q c.e<=1000000)/\(c.kind=13->Q c.f<=1000000)) :
 aK prog 12 #[v1,v2,G J room,v3] w λe w'=>∃v,e=ak (au #[v,G J (i7 par bj room ops).2])/\bw vA (i7 par bj room ops).1 v w'/\(∀x∈(i7 par bj room ops).1,G9 x)/\K w w':=by
 have M:Hid (i7 par bj room ops=if 500<Q ops then ([],1)else if mD par bj room=0 then (jS (lZ par bj room,[]) ops,0)else ([],mD par bj room)):=aY rfl
 have C1:=aY (atQ par bj room v1 v2 w h1 h2 aZ hh hr)
 generalize i7 par bj room ops=R at *
 obtain⟨A1,c1,rfl⟩:=bD h1
 obtain⟨A2,c2,rfl⟩:=bD h2
 obtain⟨A3,c3,rfl,hl,-⟩:=h3
 have HL:=aY hl
 have JQ:=aY hfit
 have Vg:=aY hel
 have HC:=aY rU
 clear h1 h2 hl hfit hel rU
 by_cases O:500<Q ops
 ·have hR:Hid (R=([],1)):=aY (by rw[M.aX,bT O]);have hi:(500:Int)<Q ops:=aZ;have kk:=K.rf w;clear M O;go_in;exact amA
 have hi:¬(500:Int)<Q ops:=aZ
 by_cases hx:mD par bj room=0
 case neg =>
  have hR:Hid (R=([],mD par bj room)):=aY (by rw[M.aX,bO O,bO hx]);have hne:(mD par bj room != 0)=true:=Nj;have C2:Hid (aK prog 16 #[F A1 (Q par) c1,F A2 (Q bj) c2,G J room] w λe w'=>e=ak (au #[aj U,G J (mD par bj room)])/\K w w'):=aY (C1.aX.mono λe w' h=>by
   unfold zk at h;rwa [bO hx]at h)
  clear C1 M O hx;generalize mD par bj room=ec at *;go_in;go_wp2_with fail
  refine C2.aX.mono ?_;rintro e w'⟨rfl,kk⟩;exact amA
 have hR:Hid (R=(jS (lZ par bj room,[]) ops,0)):=aY (by rw[M.aX,bO O,bT hx])
 have V8:iQ par=aA/\nV par bj=aA/\jQ (eY (eJ eP))<=room:=by
  unfold mD at hx;split at hx
  ·next a =>
   split at hx
   ·next b =>
    split at hx
    ·next c=>exact⟨a,b,c⟩
    ·cases hx
   ·cases hx
  ·cases hx
 have C2:Hid (aK prog 16 #[F A1 (Q par) c1,F A2 (Q bj) c2,G J room] w λe w'=>∃gw,e=ak (au #[aj (I ⟨gw,0,U⟩),G J 0])/\eK (λ_=>False) par bj gw (lZ par bj room) 0 (λb=>b<Z (D w)) w'/\K w w'):=aY (C1.aX.mono λe w' h=>by
  unfold zk at h;rw[bT hx]at h;obtain⟨H,own,e1,t,h0,k⟩:=h;exact⟨_,e1,⟨dh.new V8.1 V8.2.1 V8.2.2 hr,H,own,rfl,t,λb hb=>⟨cQ hb k.size,h0 b hb⟩,λ_ h=>h.elim⟩,k⟩)
 clear C1 M O hx V8
 go_in
 go_wp2_with fail
 refine C2.aX.mono ?_
 rintro e C⟨gw,rfl,hV,k3⟩
 have jJ:=bn.new C 93 #[aj (I ⟨gw,0,U⟩),F U 0 0]
 have P8:gV (λ_=>False) par bj (Z (D C)) (lZ par bj room,[]) 0 (λb=>b<Z (D w)) (aU C (aq #[aj (I ⟨gw,0,U⟩),F U 0 0] 93)) :=
  ⟨⟨bL _,λi hi=>by cases hi⟩,gw,_,jJ,bK.nil _ _ _ _ _,hV.to (bf.bS jJ.cC _) (λ_ h=>aI h) (λb hb=>aJ (by
   rcases hb with hb|hb|hb
   ·exact hb.elim
   ·exact⟨aZ,hb▸jJ.lt⟩
   ·cases hb)) λb hb hz=>absurd (hV.lt b (aI hz)) aZ,λh=>h,λb hb=>by cases hb⟩
 have I6:=aY P8
 have k4:=k3.tr jJ.cC
 have CC:=aY λW=>aBP W
 clear jJ hV P8
 go_upto_region 7 with fail
 generalize C.alloc _=B at *
 generalize Z (D C)=X at *
 go_wp2_with fail
 refine (CC.aX B).mono ?_
 rintro e z⟨gm,b1,b2,b3,b4,b5,b6,b7,rfl,hF,k5⟩
 have HF:=aY hF
 have HKW:=aY (show Z (D w)<=Z (D z)from (k4.tr k5).size)
 have h0:Hid (Uk par bj room w z X (Z (D B)) ops 0 (F U 0 0) z):=aY ⟨⟨_,_,λb=>b<Z (D w)∨Z (D B)<=b/\b<Z (D z),I6.aX.to (bf.bS k5 _) (λb h=>h) (λb h=>sH) (λb _ _ h=>sH),bK.nil _ _ _ _ _,rfl,rfl,λ_ h=>h⟩,λx hx=>(by cases hx),k4.tr k5,bf.rf _ _,λb hb=>(by cases hb)⟩
 clear hF
 go_wp2_with fail
 go_loopw [14,16,17,18,19,39] (fun o _ _ _ _ i W=>∃j:Nat,j<=Q ops/\i=G J j/\Hid (Uk par bj room w z X (Z (D B)) ops j o W)) (fun _ _ _ _ _ i _=>Q ops-(aO i).toNat)
 case atStart=>exact⟨0,eO _,rfl,h0⟩
 case round =>
  obtain⟨j,hj,rfl,HJ⟩:=hrel;clear h0;by_cases hlt:j<Q ops
  case neg => have cd:¬(j:Int)<Q ops:=aZ;obtain⟨⟨s,k,aS,-,t,-⟩,gG,hk,-⟩:=HJ.aX;rw[iw aZ]at t gG;obtain⟨A9,c9,rfl⟩:=t.slice;have HO:=aY t.bw;have HS:=aY gG;clear t gG HJ;go_wp2;go_ret2;exact⟨_,Tf,by rw[hR.aX];exact HO.aX,by rw[hR.aX];exact HS.aX,hk⟩
  have cd:(j:Int)<Q ops:=aZ;obtain⟨b3,o3,cc,rfl,-,hrl,d0,d⟩:=eN HL.aX j hlt bC;obtain⟨hel,dM⟩:=Vg.aX _ (dG hlt);have hfc:=JQ.aX _ (dG hlt);have PT:=aY (ayp hlt (lZ par bj room,[]));have Dw:sN (ops.take (j+1))<=40000:=cI (Xg ops _) HC.aX;obtain⟨⟨s,k,aS,hP,t,hs,hk,hZ⟩,gG,A,L,hrow⟩:=HJ.aX;rw[PT.aX.2.2,<- hk]at Dw;generalize ops[j]=c at *;obtain⟨ve,vf,rfl,he,hf⟩:=hrl w (K.rf w);obtain⟨Ae,ce,rfl⟩:=tc he;obtain⟨Af,cf,rfl⟩:=dK hf;have q9:∀i,i<6->wr.cell? ⟨b3,o3+j*6+i,U⟩=(im c (F Ae (Q c.e) ce) (F Af (Q c.f) cf))[i]?:=λi hi=>(d wr A i hi).trans aD
  have q0:wr.cell? ⟨b3,o3+j*6,U⟩=I (G J c.kind):=d0 wr A;have hz1:Z (D (aU wr (aq (im c (F Ae (Q c.e) ce) (F Af (Q c.f) cf)) 39)))=Z (D wr)+1:=bq;have bo:=(bn.new wr 39 (im c (F Ae (Q c.e) ce) (F Af (Q c.f) cf))).alloc (aq #[G J 1,G J 0,G E 0,G E 0,G J 0,F U 0 0,G J 0,G J 0,ar az] 45);have T:=bn.new (aU wr (aq (im c (F Ae (Q c.e) ce) (F Af (Q c.f) cf)) 39)) 45 #[G J 1,G J 0,G E 0,G E 0,G J 0,F U 0 0,G J 0,G J 0,ar az];have y:=K.lK wr (aq (im c (F Ae (Q c.e) ce) (F Af (Q c.f) cf)) 39) (aq #[G J 1,G J 0,G E 0,G E 0,G J 0,F U 0 0,G J 0,G J 0,ar az] 45);rw[hz1]at T;clear d d0 hrl hz1;go_upto_region 13 with fail;generalize ay (ay wr _) _=V at *;have qG:=hP.to (C':=λb=>aW u14=I b∨b=Z (D wr)+1) (Z':=aS) (bf.bS y _) (λ_ h=>aI h) (λb hb=>hb.imp id λe=>⟨aZ,by rw[e];exact T.lt⟩) (λb hb hz=>absurd (hP.lt b (aI hz)) aZ);have yN:=HF.aX V (L.tr (bf.bS y _));have hOP:=aE6 qG yN hp c hfc Dw hel dM (nL _ _ _ _ he (A.tr y)) (fJ _ _ _ _ hf (A.tr y));have QL:=(Ej (Dn (P:=prog) (kt:=3) underlying3) underlying94 (aBQ V) yN.map c.kind).1;generalize Uj b1 b2 b3 b4 b5 b6 b7=FL at *;have q2:=bo.cell;clear q9 q0 yN;have eE:=t.st y;have h5z:=L.size;have hwz:=HKW.aX;have Y:=aY (aB PT.aX.1 (aB PT.aX.2.1 PT.aX.2.2));rw[<- hs,<- hk]at Y;have qF:=aY gG;generalize jS (lZ par bj room,[]) (ops.take j)=l at *;have key:∀x vb Z9 w6,Hid ((fZ s c).2=x)->Hid (IY par bj w z X (Z (D B)) l u14 (Z (D wr)+1) (fZ s c).1 (k+xi c) x vb Z9 w6)->Hid (∀W7 W9 v9,K w6 W7->bK (λb=>¬Z9 b) 0 45 vA (l++[x]) v9 W9->W7.grownBy W9 (aW u14)->(aW v9=aW u14∨aW v9=I (Z (D W7)))->Uk par bj room w z X (Z (D B)) ops (j+1) v9 W9) :=
   λx vb Z9 w6 hx hS=>aY λW7 W9 v9 k7 cR dF fO=>hS.aX.push k7 cR dF fO hwz (by rw[<- hx.aX];exact Y.aX.1) Y.aX.2.1 Y.aX.2.2 qF.aX
  have V9:=aY key;have Ck:Q l<=500:=by have:=Y.aX.1;have h9:=congrArg Q this;rw[Hp,qN,eU]at h9;simp at h9;omega
  clear key Y qF gG PT hs hk HJ;rcases hOP with ⟨hlk,hst⟩|⟨f,cs,hlk,rr,hC⟩
  case inl => have hx:Hid ((fZ s c).2=gS 1):=aY (by rw[hst]);have HS:Hid (IY par bj w z X (Z (D B)) l u14 (Z (D wr)+1) (fZ s c).1 (k+xi c) (gS 1) (F U 0 0) aS V):=aY ⟨by rw[hst];exact qG.mono (Nat.le_add_right _ _),eE,λ_ _=>gN _ _,hZ,by simp[G9,gS],A.tr y,L.tr (bf.bS y _),T,hrow⟩;have HJ:=V9.aX _ _ _ _ hx HS;rw[hlk]at QL;simp only[Option.getD_none,Option.isSome_none,encI]at QL;clear hP qG t eE hZ L A y T hst hlk V9 hx;generalize gS 1=x at *;go_upto_region 16 with fail;have mo:=HS.aX.out;have q6:=HS.aX.blk.cell;obtain⟨Ao,co,hvo⟩:=mo.slice;subst hvo;have kA:=K.new V (aq (iW x (F U 0 0)) 45);have jh:=mo.st kA;have hr:=fL.new (S:=vA) (e:=45) (x:=x) (v:=av (iW x (F U 0 0))) (w:=V) (N:=λb=>¬aS b∨aW (F Ao (Q l) co)=I b) (HS.aX.fx.mono λW h=>⟨_,rfl,h⟩) 0 (eO _);exact amB
  case inr =>
   rw[hlk]at QL;simp only[Option.getD_some,Option.isSome_some,encI]at QL;have HC:=aY hC;have HRS:=aY λe W3 (hQ:K8 (λb=>aW u14=I b∨b=Z (D wr)+1) par bj X (fZ s c).1 (k+xi c) (fZ s c).2 aS V e W3)=>IY.call qG eE hZ (A.tr y) (L.tr (bf.bS y _)) T rfl (λb hb=>⟨hrow b hb,λe=>by have:=(t.blk b hb).2;omega⟩) aZ hwz (e:=e) (W3:=W3) hQ
   clear hC hP qG t eE hZ L A y T hlk;go_wp2_with fail
   refine HC.aX.mono ?_;rintro e C hQ;obtain⟨A9,n9,c9,Z9,rfl,hS,Ms⟩:=HRS.aX e C hQ;have HS:=aY hS;have HJ:=V9.aX _ _ _ _ (aY rfl) HS;have q3:=Ms.cell;have z3:=Ms.frozen;generalize (fZ s c).2=x at *;simp only[dL,Nat.reduceAdd,ng]at HS HJ;clear hQ HRS HC hS Ms V9;go_upto_region 16 with fail;generalize ax (ax (ax (ax (ax (ax (ax (ax (ax _ _ _) _ _) _ _) _ _) _ _) _ _) _ _) _ _) _ _=w6 at *;have mo:=HS.aX.out;have q6:=HS.aX.blk.cell;obtain⟨Ao,co,hvo⟩:=mo.slice;subst hvo;have kA:=K.new w6 (aq (iW x (F A9 n9 c9)) 45);have jh:=mo.st kA;have hr:=fL.new (S:=vA) (e:=45) (x:=x) (v:=av (iW x (F A9 n9 c9))) (w:=w6) (N:=λb=>¬Z9 b∨aW (F Ao (Q l) co)=I b) (HS.aX.fx.mono λW h=>⟨_,rfl,h⟩) 0 (eO _);exact amB
theorem awB n w:aK prog 32 #[G J n] w λe w'=>e=ak (av #[G J 1,G J n,aw ⟨#[]⟩])/\K w w':=by have j:=bn.new w 83 #[G J 0,G J 0,aw ⟨#[]⟩];have k1:=j.cC;go_in;go_upto_region 1 with fail;generalize w.alloc _=t at *;generalize hg:Z (D w)=g at j⊢;have HG:=aY hg;have q:=j.cell;have z:=j.frozen;go_wp2;have A:bn (ax (ax (ax t _ _) _ _) _ _) g 83 #[G J 1,G J n,aw ⟨#[]⟩]:=((j.cz 0 (G J 1)).cz 1 (G J n)).cz 2 (aw ⟨#[]⟩);have B:=K.set (K.set (K.set k1 (r:=g) SQ 0 (G J 1)) (r:=g) SQ 1 (G J n)) (r:=g) SQ 2 (aw ⟨#[]⟩);generalize ax (ax (ax t _ _) _ _) _ _=C at *;have y:=A.cell;refine aM (v:=av #[G J 1,G J n,aw ⟨#[]⟩]) (by simp[results,results32,go_sem,y]) rfl ?_;exact⟨rfl,B⟩
theorem ahJ{w:aP} l T{M}(y:∀k,M k->k<Z (D w)):Fx M (λW=>bw eu l (F (I ⟨Z (D w),0,U⟩) (Q l) (Q l)) W) (aU w (aq (l.map λn=>G J n).toArray T)):=by
 intro W u;have hb:=(bn.new w T (l.map λn=>G J n).toArray).cA u λh=>bG
 refine⟨_,_,rfl,⟨l.map Dp,Hj _ _,by grind [Xo,eu],λ_=>⟨_,0,rfl,hb.lt,λj u t=>?_⟩⟩,bL _⟩;rw[Xo]at t;rw[ng,hb.cell j,List.getElem?_toArray];exact t
theorem aBR(w:aP) t T:fQ [t] (F (I ⟨Z (D w),0,U⟩) 1 1) (aU w (aq (gT t).toArray T)) :=
 ⟨_,_,rfl,by simpa using (Reads.new w (gT t) T 5 1 rfl).more (by simp)⟩
theorem aBS(w:aP) t T:iT [t] (F (I ⟨Z (D w),0,U⟩) 1 1) (aU w (aq (lV t).toArray T)) :=
 ⟨_,_,rfl,by simpa using (Reads.new w (lV t) T 4 1 rfl).more (by simp)⟩
theorem Qx:ir prog 25 39 (av #[G J 0,G J 0,G J 0,G J 0,F U 0 0,F U 0 0]) 6 80:=⟨underlying25,dz,rfl,bC⟩
abbrev anF(ge gf:Nat):Array aQ:=#[G J 13,G J 0,G J 1,G J 0,F U 0 0,F (I ⟨gf,0,U⟩) 1 1,G J 9,G J 0,G J 0,G J 0,F U 0 0,F U 0 0,G J 10,G J 0,G J 0,G J 1,F (I ⟨ge,0,U⟩) 1 1,F U 0 0,G J 11,G J 0,G J 0,G J 1,F U 0 0,F U 0 0,G J 8,G J 0,G J 0,G J 0,F U 0 0,F U 0 0,G J 8,G J 0,G J 0,G J 0,F U 0 0,F U 0 0,G J 8,G J 0,G J 0,G J 0,F U 0 0,F U 0 0,G J 16,G J 0,G J 0,G J 0,F U 0 0,F U 0 0,G J 15,G J 0,G J 0,G J 1,F U 0 0,F U 0 0,G J 17,G J 1,G J 0,G J 0,F U 0 0,F U 0 0,G J 11,G J 0,G J 0,G J 7,F U 0 0,F U 0 0,G J 99,G J 0,G J 0,G J 0,F U 0 0,F U 0 0]
theorem Each.new{α}{S:fE α}{T:TypeId}{W:aP}{g:Nat}{l:List α}{css}(t:Each S l css W)(hb:bn W g T css.flatten.toArray):bw S l (F (I ⟨g,0,U⟩) (Q l) (Q l)) W :=
 ⟨_,_,rfl,⟨css,t,t.Gf,λ_=>⟨g,0,rfl,hb.lt,λj u y=>by rw[ng,hb.cell j];simpa using y⟩⟩,bL _⟩
theorem aAo{W:aP}{g A gf:Nat}(hb:bn W g 39 (anF A gf))(H:iT [(pS,1,5,⟨#[]⟩)] (F (I ⟨A,0,U⟩) 1 1) W)(C:fQ [(pS,8,0,0,⟨#[]⟩)] (F (I ⟨gf,0,U⟩) 1 1) W):bw ly IX (F (I ⟨g,0,U⟩) 12 12) W:=by
 have t:iT [] (F U 0 0) W:=⟨U,0,rfl,Reads.nil _ _ _ _⟩;have y:fQ [] (F U 0 0) W:=⟨U,0,rfl,Reads.nil _ _ _ _⟩;have h:∀z a b n e f ve vf,iT e ve W->fQ f vf W->ly.rel ⟨z,a,b,n,e,f⟩ (im ⟨z,a,b,n,e,f⟩ ve vf).toList W:=λz a b n e f ve vf L B=>⟨ve,vf,rfl,L,B⟩
 have j:=Each.nil ly W;replace j:=j.snoc (h 13 0 1 0 _ _ _ _ t C);replace j:=j.snoc (h 9 0 0 0 _ _ _ _ t y);replace j:=j.snoc (h 10 0 0 1 _ _ _ _ H y);replace j:=j.snoc (h 11 0 0 1 _ _ _ _ t y);replace j:=j.snoc (h 8 0 0 0 _ _ _ _ t y);replace j:=j.snoc (h 8 0 0 0 _ _ _ _ t y);replace j:=j.snoc (h 8 0 0 0 _ _ _ _ t y);replace j:=j.snoc (h 16 0 0 0 _ _ _ _ t y);replace j:=j.snoc (h 15 0 0 1 _ _ _ _ t y);replace j:=j.snoc (h 17 1 0 0 _ _ _ _ t y);replace j:=j.snoc (h 11 0 0 7 _ _ _ _ t y);replace j:=j.snoc (h 99 0 0 0 _ _ _ _ t y);exact Each.new (l:=IX) j hb
theorem aAp:∀c∈IX,uB c:=by simp_all [IX,uB,cV,ny,jF]
theorem as7 B t c1 A y c2(r:Int) z j c3 w(h:500<j):aK prog 12 #[F B t c1,F A y c2,G J r,F z j c3] w λe w'=>e=ak (au #[F U 0 0,G J 1])/\w'=w:=by have:(500:Int)<j:=aZ;go_in;go_wp2;go_ret2;exact⟨rfl,rfl⟩
theorem aBT w:∃W',(Instr.makeSlice 25 (G J 501) (G J 501)).run prog w=.ok (F (I ⟨Z (D w),0,U⟩) 501 501) W'/\K w W':=by obtain⟨i,t,j,y,z⟩:=Qx.fit;exact⟨_,run_make (P:=prog) w _ _ i _ Qx.und t j J J 501 501 bC bC aZ bC,K.new w _⟩
theorem aBU{α}{S:fE α}{l:List α}{A w}(h:xu S l A w)(t:0<S.size)(B:0<Q l):∃b o,A=I ⟨b,o,U⟩/\∀i (y:i<Q l),∃cs,(∀W,K w W->S.rel l[i] cs W)/\∀W,K w W->∀j,j<S.size->W.cell? ⟨b,o+i*S.size+j,U⟩=cs[j]?:=by obtain⟨b,o,_,rfl,-⟩:=eN h 0 B t;refine⟨b,o,rfl,λi y=>?_⟩;obtain⟨H,o',cs,e,-,C,-,z⟩:=eN h i y t;injection e with e;injection e with e1 e2;subst e1 e2;exact⟨cs,C,z⟩
theorem ayq{l:List tP}{A w}(h:xu vA l A w)(z:0<Q l):∃b o,A=I ⟨b,o,U⟩/\∀i (t:i<Q l),∃A n c,n=Q l[i].batch/\(∀W,K w W->bw dS l[i].batch (F A n c) W)/\∀W,K w W->∀j,j<9->W.cell? ⟨b,o+(i*9+j),U⟩=(iW l[i] (F A n c))[j]?:=by obtain⟨b,o,e,H⟩:=aBU h bC z;refine⟨b,o,e,λi t=>?_⟩;obtain⟨cs,B,y⟩:=H i t;obtain⟨M,rfl,hb⟩:=B w (K.rf w);obtain⟨C,c3,rfl⟩:=bD hb;exact⟨C,_,c3,rfl,λW k=>cH hb k,λW k j L=>by rw[<- Nat.add_assoc];exact (y W k j L).trans aD⟩
theorem QN W:aK prog 9 #[] W λe w'=>e=ak (ar aA)/\K W w':=by
 have C5:=aY λW=>awB 5 W
 have kA:=K.new W (aq #[aw ⟨#[112]⟩,G J 8,G J 0,G J 0,aw ⟨#[]⟩] 85);have z:fQ [(pS,8,0,0,⟨#[]⟩)] (F (I ⟨Z (D W),0,U⟩) 1 1) (aU W (aq #[aw ⟨#[112]⟩,G J 8,G J 0,G J 0,aw ⟨#[]⟩] 85)):=aBR W (pS,8,0,0,⟨#[]⟩) 85;have C:=ayo;unfold anE at C;have CR:=aY λv1 v2 v3 w S N h3=>Em [-1,0] [1] 10000 IX v1 v2 v3 w S N h3 aAp bC bC bC bC bC
 generalize i7 [-1,0] [1] 10000 IX=R at *;obtain⟨l,er⟩:=R;split at C;rotate_left
 ·cases C
 next a0 a1 a2 a3 a4 a5 a6 a7 a8 a9 a10 GQ er heq =>
 injection heq with e1 e2;subst e1 e2;have HR:=aY (of_decide_eq_true C);go_in;go_wp2_with fail
 generalize W.alloc _=wA at *;refine (C5.aX wA).mono ?_;rintro e t⟨rfl,X⟩;replace z:=fJ _ _ _ _ z X;have he:iT [(pS,1,5,⟨#[]⟩)] (F (I ⟨Z (D t),0,U⟩) 1 1) (aU t (aq #[aw ⟨#[112]⟩,G J 1,G J 5,aw ⟨#[]⟩] 88)):=aBS t (pS,1,5,⟨#[]⟩) _;have kC:=K.new t (aq #[aw ⟨#[112]⟩,G J 1,G J 5,aw ⟨#[]⟩] 88);replace z:=fJ _ _ _ _ z kC;have hzC:Z (D (aU t (aq #[aw ⟨#[112]⟩,G J 1,G J 5,aw ⟨#[]⟩] 88)))=Z (D t)+1:=bq;have k0C:=(kA.tr X).tr kC;go_upto_region 2 with fail;generalize t.alloc _=wC at *;have B:=bn.new wC 39 (anF (Z (D t)) (Z (D W)));have V:=aAo B (nL _ _ _ _ he B.cC) (fJ _ _ _ _ z B.cC);have k0D:=k0C.tr B.cC;rw[hzC]at V;generalize wC.alloc _=y at *;have kE:=K.lK y (aq #[G J (-1),G J 0] 3) (aq #[G J 1] 3);have S:=((ahJ (w:=y) [-1,0] 3 (M:=λ_=>False) (λ_ h=>h.elim)).k ((K.rf _).al (aq #[G J 1] 3))).now;have hz1:Z (D (aU y (aq #[G J (-1),G J 0] 3)))=Z (D y)+1:=bq;have N:=(ahJ (w:=y.alloc (aq #[G J (-1),G J 0] 3)) [1] 3 (M:=λ_=>False) (λ_ h=>h.elim)).now;rw[hz1]at N;have C1:=aY (CR.aX _ _ _ _ S N (cH V kE));have k0E:=k0D.tr kE;go_wp2_with fail
 refine C1.aX.mono ?_;rintro e T⟨v,rfl,hl,-,k1⟩;obtain⟨Av,cv,rfl,sA,-⟩:=hl;have Mp:=k0E.tr k1;have kF:=K.lK T (aq #[G J (-1)] 3) (aq #[G J 0] 3);obtain⟨w2,hmk,k2⟩:=aBT ((aU T (aq #[G J (-1)] 3)).alloc (aq #[G J 0] 3));have Y:=kF.tr k2;go_wp2_with fail
 refine (as7 _ _ _ _ _ _ _ _ _ _ _ aZ).mono ?_;rintro e w3⟨rfl,rfl⟩;have L:=Em [] [] 10000 [] _ _ _ w3 (gN _ _) (gN _ _) (gN _ _) bq bq bq bC bC bq;rw[show i7 [] [] 10000 []=([],120) by decide]at L;replace L:=aY L;go_wp2_with fail
 refine L.aX.mono ?_;rintro e j⟨v4,rfl,jy,-,k4⟩;obtain⟨A4,c4,rfl⟩:=bD jy;have uK:=Y.tr k4;have kW:=Y.tr k4;go_upto_region 5 with fail;obtain⟨b,o,rfl,H⟩:=ayq sA bq;have d:=λi hi=>(H i hi).imp λA h=>h.imp λn h=>h.imp λc h=>aB h.1 (h.2.2 j kW)
 obtain⟨_,_,_,-,d0⟩:=d 0 bq;obtain⟨_,_,_,-,d1⟩:=d 1 bq;obtain⟨_,_,_,-,d3⟩:=d 3 bq;obtain⟨A7,n7,c7,Lj,d7⟩:=d 7 bq;obtain⟨_,_,_,-,d8⟩:=d 8 bq;obtain⟨_,_,_,-,O⟩:=d 9 bq;obtain⟨_,_,_,-,d10⟩:=d 10 bq;obtain⟨_,_,_,-,d11⟩:=d 11 bq;obtain⟨g0,g1,g2,g3,g4,g5,g6,g7,g8,g9,g10,g11⟩:=HR.aX;subst g0;have:j.cell? ⟨b,o+3,U⟩=I (G E 1):=(d0 3 bC).trans SZ;have:j.cell? ⟨b,o+12,U⟩=I (G E 2):=(d1 3 bC).trans (by simp[g2]);have:j.cell? ⟨b,o+27,U⟩=I (G J 0):=(d3 0 bC).trans (by simp[g3]);have:j.cell? ⟨b,o+68,U⟩=I (F A7 1 c7):=(d7 5 bC).trans (by simp[Lj,g4]);have:j.cell? ⟨b,o+69,U⟩=I (G J 2):=(d7 6 bC).trans (by simp[g5]);have:j.cell? ⟨b,o+76,U⟩=I (G J 3):=(d8 4 bC).trans (by simp[g6]);have:j.cell? ⟨b,o+87,U⟩=I (G J 2):=(O 6 bC).trans (by simp[g7]);have:j.cell? ⟨b,o+88,U⟩=I (G J 0):=(O 7 bC).trans (by simp[g8]);have:j.cell? ⟨b,o+89,U⟩=I (ar aA):=(O 8 bC).trans (by simp[g9]);have:j.cell? ⟨b,o+90,U⟩=I (G J 1):=(d10 0 bC).trans (by simp[g10]);have:j.cell? ⟨b,o+99,U⟩=I (G J 1):=(d11 0 bC).trans (by simp[g11]);go_wp2;go_ret;exact⟨rfl,Mp.tr uK⟩
