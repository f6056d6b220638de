/-
  Messages in plain Lean (layer 13): what may be, what bytes they are, how a reader reads them. Conditions: none.
-/
import Derived.Test.YtcjlnlcpodcldaaGreatMt00
import Derived.Test.YtcjlnlcpodcldaaGreatMsz
set_option maxRecDepth 100000
set_option maxHeartbeats 16000000
set_option linter.all false
namespace Go.Proofs.YtcjlnlcpodcldaaGreat
open Go Go.RowKit _root_.Go.Proofs.Tryz
open List renaming length→Q
open _root_.Array renaming size→Z
open Go.World renaming heap→D,alloc→aU,setCell→aV
open Go.Value renaming ownBlock→aW
open Go.Value renaming int→G,slice→F,pointer→aj,bool→ar,tuple→au,agg→av,string→aw
open Go.IntKind renaming i64→J,u64→E
open Option renaming none→U,some→I
open Go.Ending renaming returned→ak
open Go.Obj renaming cells→aq
open Go.World renaming setCell→ax,alloc→ay
open Bool renaming false→az,true→aA
open And renaming intro→aB
open List renaming lookup→aC,getElem?_eq_getElem→aE,getElem?_eq_some_iff→aF
open _root_.Array renaming getElem?_toList→aD,getElem?_eq_some_iff→aG
open Nat renaming le_succ→aH
open Or renaming inl→aI,inr→aJ
open Go renaming Calls→aK,execOp→aL,bodyPost_ret→aM,World→aP,Value→aQ
open Go.RowKit renaming Below→aN,intOf→aO
section
variable {α:Type} {enc:α->List UInt8} {ok:α->Prop} {rd:qi α}
end
def Ul(n:Int)(m:gM):Prop:=(∀x∈m.asks,(Q (fU x):Int)<=n)/\(∀x∈m.entries,(Q (fU x):Int)<=n)/\∀x∈m.gu,(Q (fU x):Int)<=n
theorem aBZ n m(h:fI m=aA)(hf:pW m)(hn:Ul n m) rest:ou n (iZ m++rest) az az=(m,rest,az,az):=by
 obtain⟨hk,y,C,L,A,B,z⟩:=M0 h;obtain⟨kind,got,dU,asks,entries,gu,fA,ends⟩:=m;obtain⟨-,H,Y,R,f3,S,N,W⟩:=hf;obtain⟨V,O,M⟩:=hn;simp only at hk y C L A B z H Y R f3 S N W V O M;have T:=xL (AJ 3 aZ) Re;rcases hk with ⟨rfl,rfl,rfl,rfl,rfl⟩|⟨rfl,rfl,rfl⟩
 ·have e:iZ ⟨1,got,dU,asks,[],[],[],[]⟩++rest=(bI 1++bI got)++((gU nj dU++gU iP asks)++rest):=by
   grind [iZ,fN,cL]
  rw[e,Sr (T.fwd (1,got) ⟨aZ,H⟩ _)];have C1:=xL (sF Rf) (sF (Cu n));have:=C1.fwd (dU,asks) ⟨⟨y.1,λv X=>⟨y.2 v X,Y v X⟩⟩,C.1,λx j=>⟨C.2 x j,R x j,V x j⟩⟩ rest;simp only at this;unfold Bs;rw[this]
 ·have e:iZ ⟨2,got,[],[],entries,gu,fA,ends⟩++rest=(bI 2++bI got)++((gU iP entries++(gU iP gu++(gU iy fA++gU iy ends)))++rest):=by
   grind [iZ,fN,cL]
  rw[e,Ss (T.fwd (2,got) ⟨aZ,H⟩ _)];have C2:=xL (sF (Cu n)) (xL (sF (Cu n)) (xL (sF FC) (sF FC)));have:=C2.fwd (entries,gu,fA,ends) ⟨⟨L.1,λx j=>⟨L.2 x j,f3 x j,O x j⟩⟩,⟨A.1,λx j=>⟨A.2 x j,S x j,M x j⟩⟩,⟨B.1,λa t=>⟨B.2 a t,N a t⟩⟩,z.1,λa t=>⟨z.2 a t,W a t⟩⟩ rest;simp only at this;unfold qQ;rw[this]
theorem aAy{α} enc l(x:α)(j:x∈l):Q (enc x)<=Q (gU enc l):=by
 obtain⟨s,t,rfl⟩:=List.append_of_mem j
 grind [gU]
theorem aAz m(h:fI m=aA):Ul (Q (iZ m):Int) m:=by
 obtain⟨hk,z,y,C,L,M,A⟩:=M0 h;have key:∀(l:List bW),(∀x∈l,dm x=aA)->Q (gU iP l)<=Q (iZ m)->∀x∈l,(Q (fU x):Int)<=(Q (iZ m):Int):=by
  grind [aAy,iP,rM,fU,jA,eU]
 rcases hk with ⟨k,j,t,B,H⟩|⟨k,j,t⟩
 ·grind [fI,Ul,iZ]
 ·grind [fI,Ul,iZ]
theorem ahQ m(h:fI m=aA)(t:pW m):rX (iZ m)=I m:=by
 have j:=aBZ (Q (iZ m):Int) m h t (aAz m h) []
 rw[List.append_nil]at j
 unfold rX
 grind
section
variable {par bj:List Int} {n c:Nat} {O:cP}
theorem ahR(B:cJ):∀(l:List gM) o,(∀k∈l,k.asks=[])->l.foldl (λo k=>k.asks.foldl (lU B) o) o=o
 | [],_,_=>rfl
 | k :: l,o,h=>by rw[List.foldl_cons,h k (List.mem_cons_self ..)];exact ahR B l o λx j=>h x (List.mem_cons_of_mem _ j)
end
def aoM(O:cP)(c:Int):List (List (List dW)):=if mO O c then (O.got[c.toNat]?).getD []else []
section
variable {S:Nat->Prop} {W W2:aP} {H:nf} {own:Nat->Nat} {O:cP} {par bj:List Int} {k:Nat}
end
def yp:gM:=⟨1,0,[],[],[],[],[],[]⟩
def Dv:gM:=⟨2,0,[],[],[],[],[],[]⟩
def xG(b:List UInt8):Prop:=b=iZ yp∨b=iZ Dv
structure QS(s:fe):Prop where
 l:s.list=[]
 p:s.prom=[]
 a:s.ab=[]
structure QB(B:cJ):Prop where
 st:QS B.st
 tx:B.bH=[]
 dq:∀p∈B.dq,p.2=yp
 told:B.told=[]
 ref:B.refused=[]
 waits:B.waits=[]
structure QO(O:cP):Prop where
 gq:∀(n:Nat) x,O.gq[n]?=I x->(∀B,x.up=I B->QB B)/\(x.up=U->QS (G2 x.dk))
 dR:∀q∈O.dR,∀b∈q.2,xG b
 cur:∀x∈O.cur,x=0
 got:∀l∈O.got,l=[]
theorem aAA:rX (iZ yp)=I yp:=ahQ _ bC ⟨by simp[yp,cV],Ik,Ik,Ik,Ik,Ik,Ik,Ik⟩
theorem aAB:rX (iZ Dv)=I Dv:=ahQ _ bC ⟨by simp[Dv,cV],Il,Il,Il,Il,Il,Il,Il⟩
theorem QB.rep{B}(h:QB B) k:jZ B k=yp∨jZ B k=yg:=by
 unfold jZ
 cases hf:B.dq.find? λp=>decide (p.1=k)with
 | none=>exact aJ rfl
 | some p=>exact aI (h.dq p (List.mem_of_find?_eq_some hf))
theorem QB.quiet{B}(h:QB B):iX B=B/\CI B=yp/\∀k,wN B k=Dv:=by
 have t:∀k∈fg B,k.asks=[]:=λk hk=>by unfold fg at hk;obtain⟨x,-,rfl⟩:=List.mem_map.1 hk;rcases h.rep x with e|e <;> rw[e] <;> rfl
 have j:nt B=[]:=by unfold nt;rw[h.tx,show kY []=[]from rfl];exact ahR B _ _ t
 refine⟨?_,?_,λk=>?_⟩
 ·have e:pR B=(B,[]):=by simp[pR,Bg,j,h.waits,qK]
  unfold iX;rw[e];split
  ·rw[<- h.waits]
  ·rfl
 ·simp[CI,j,h.st.l,h.st.p,h.ref,KD,yp]
 ·rcases h.rep k with e|e <;> simp[wN,e,rS,h.st.l,h.st.p,h.waits,yg,yp,Dv,Bf,Dj,wX,wW]
theorem QB.outs{B}(h:QB B):∀x∈xd (iX B),xG x.2:=by
 obtain⟨t,z,y⟩:=h.quiet;have key:∀k m,(m=yp∨m=Dv)->∀x∈xc k m,xG x.2:=λk m hm x j=>by
  unfold xc at j;split at j
  ·rw[List.mem_singleton]at j;subst j;exact hm.imp (λe=>Hy) λe=>Hy
  ·cases j
 intro x j;rw[t,xd,De]at j;rcases j with j|j
 ·unfold vI at j;split at j
  ·cases j
  ·exact key _ _ (aI z) x j
 ·unfold vJ at j;obtain⟨k,-,j⟩:=List.mem_flatMap.1 j;exact key _ _ (aJ (y k)) x j
theorem QB.handle{B}(h:QB B) j{b}(hb:xG b):QB (jr B j b).1:=by
 have z:∀m,m=yp->QB (iX { B with dq:=oB B.dq j m }):=λm hm=>by
  have t:QB { B with dq:=oB B.dq j m }:=⟨h.st,h.tx,λp hp=>by
   unfold oB at hp;split at hp
   ·obtain⟨x,y,rfl⟩:=List.mem_map.1 hp;split
    ·exact hm
    ·exact h.dq x y
   ·rw[De,List.mem_singleton]at hp;exact hp.elim (h.dq p) λe=>by rw[e];exact hm,h.told,h.ref,h.waits⟩
  rw[t.quiet.1];exact t
 have A:sM B Dv=B:=by
  have e:tE B []=(B,[]):=by simp[tE,nU,vQ,pK]
  show vH B []=B;unfold vH;rw[e,<- h.ref]
 unfold jr;split
 ·rcases hb with rfl|rfl
  ·rw[aAA];dsimp only;split
   ·exact z _ rfl
   ·split
    ·next h9=>simp[yp]at h9
    ·exact h
  ·rw[aAB];dsimp only;split
   ·next h9=>simp[Dv]at h9
   ·split
    ·rw[A];exact h
    ·exact h
 ·exact h
section
variable {O:cP} {par bj:List Int} {k:Nat}
theorem QO.set(h:QO O) n{x:JL}(t:∀B,x.up=I B->QB B)(z:x.up=U->QS (G2 x.dk)):QO (oL O n x):=by
 refine⟨λi y j=>?_,h.dR,h.cur,h.got⟩;simp only[oL,List.getElem?_set]at j;split at j
 ·split at j
  ·injection j with j;subst j;exact⟨t,z⟩
  ·cases j
 ·exact h.gq i y j
theorem QO.put(h:QO O) n{B}(j:QB B):QO (rZ O n B):=h.set n (λB' e=>by injection e with e;exact e▸j) λe=>by cases e
theorem QO.anG(h:QO O){L:List lu}(j:∀q∈L,∀b∈q.2,xG b):QO { O with dR:=L }:=⟨h.gq,j,h.cur,h.got⟩
theorem QO.up(h:QO O){n B}(t:eF O n=I B):QB B:=by obtain⟨m,-,-,x,j,e⟩:=EG t;exact (h.gq m x j).1 B e
theorem anm{L:List lu}{k l}(h:∀q∈L,∀b∈q.2,xG b)(t:∀b∈l,xG b):∀q∈jV L k l,∀b∈q.2,xG b:=λq j=>by
 unfold jV at j;obtain⟨p,hp,rfl⟩:=List.mem_map.1 j;split
 ·exact t
 ·exact h p hp
theorem aB0{L:List lu}{k b}(h:∀q∈L,∀b∈q.2,xG b)(hb:xG b):∀q∈xg L k b,∀b∈q.2,xG b:=by
 unfold xg;split
 ·next l hl =>
  split
  ·exact anm h λx j=>(List.mem_append.1 j).elim (h _ (FT hl) x) λe=>by rw[List.mem_singleton]at e;rw[e];exact hb
  ·exact h
 ·exact h
theorem amR n:∀(l:List (Int×List UInt8)) {L:List lu},(∀q∈L,∀b∈q.2,xG b)->(∀x∈l,xG x.2)->∀q∈l.foldl (λL m=>xg L (n,m.1) m.2) L,∀b∈q.2,xG b
 | [],_,h,_=>h
 | x :: l,_,h,hl=>amR n l (aB0 h (hl x (List.mem_cons_self ..))) λy j=>hl y (List.mem_cons_of_mem _ j)
theorem QO.tick(h:QO O) n:QO (pw O n).1:=by
 unfold pw;split
 ·split
  ·exact h
  ·next B hu =>
   have j:=h.up hu;have hp:=h.put n j;rw[j.quiet.1];exact hp.anG (amR n _ h.dR (by have:=j.outs;rwa [j.quiet.1]at this))
 ·exact h
theorem QO.EB(h:QO O) a b:QO (nJ O a b).1:=by
 unfold nJ;split
 ·exact h
 ·exact h
 ·next m l hl =>
  have t:=h.dR _ (FT hl);have j:QO { O with dR:=jV O.dR (a,b) l }:=h.anG (anm h.dR λx y=>t x (List.mem_cons_of_mem _ y));dsimp only;split
  ·exact j
  ·next B hu=>exact j.put b ((j.up hu).handle a (t m (List.mem_cons_self ..)))
theorem QO.drain a b:∀(j:Nat) {O:cP},QO O->QO (Be a b j O)
 | 0,_,h=>h
 | j+1,_,h=>QO.drain a b j (h.EB a b)
theorem QO.FZ n:∀(l:List Nat) {O:cP},QO O->QO (l.foldl (λO (t:Nat)=>if t=n then O else Be n t (pz O n t) O) O)
 | [],_,h=>h
 | t :: l,_,h=>QO.FZ n l (by dsimp only;split;exact h;exact QO.drain _ _ _ h)
theorem QO.turns:∀(l:List Nat) {O:cP},QO O->QO (l.foldl vK O)
 | [],_,h=>h
 | t :: l,_,h=>QO.turns l (by unfold vK;split;exact QO.FZ t _ (h.tick t);exact h)
theorem QO.round(h:QO O):QO (EF O):=QO.turns _ h
theorem QO.IP(h:QO O) c:QO (jE O c).1:=by
 unfold jE;split
 ·split
  ·exact h
  ·next B hu =>
   have j:(O.cur[c.toNat]?).getD 0=0:=amS;have e:nu B c 0=([],0,(nu B c 0).2.2):=by unfold nu;rw[(h.up hu).st.l];split <;> rfl
   rw[j];generalize t:(nu B c 0).2.2=q at e;simp only[e];split
   ·exact⟨h.gq,h.dR,λx hx=>(List.mem_or_eq_of_mem_set hx).elim (h.cur x) id,h.got⟩
   ·exact h
 ·exact h
theorem QO.new:QO (lZ par bj 60000):=by
 refine⟨λn x t=>?_,λq j=>?_,NW,NW⟩
 ·simp only[lZ,List.getElem?_map,Option.map_eq_some_iff]at t;obtain⟨m,-,rfl⟩:=t;exact⟨λB e=>by injection e with e;subst e;exact⟨⟨rfl,rfl,rfl⟩,rfl,λp hp=>(by cases hp),rfl,rfl,rfl⟩,λe=>AU⟩
 ·have j:q∈Im par:=j;rw[Xf par _ q j];intro b hb;cases hb
theorem QO.state(h:QO O) n:QS (oC O n)/\Dk O n=0:=by
 have j:QS (oC O n):=by
  unfold oC;split
  ·next hi =>
   split
   ·next B hu=>exact (h.up hu).st
   ·next hu =>
    cases hx:O.gq[n.toNat]? with
    | none=>exact⟨rfl,rfl,rfl⟩
    | some x => refine (h.gq _ x hx).2 ?_;unfold eF at hu;rw[hi,hx]at hu;simpa using hu
  ·exact⟨rfl,rfl,rfl⟩
 refine⟨j,?_⟩
 unfold Dk
 rw[j.p]
 cases hu:eF O n with
 | none=>rfl
 | some B=>simp[(h.up hu).tx,(h.up hu).waits]
end
theorem QO.seen{O}(h:QO O) c:ED O c=0/\aoM O c=[]:=by
 have t:∀n:Nat,(O.cur[n]?).getD 0=0:=λn=>by
  cases hx:O.cur[n]? with
  | none=>rfl
  | some x=>exact h.cur x (List.mem_of_getElem? hx)
 have j:∀n:Nat,(O.got[n]?).getD []=[]:=λn=>by
  cases hx:O.got[n]? with
  | none=>rfl
  | some x=>exact h.got x (List.mem_of_getElem? hx)
 unfold ED aoM;constructor <;> split <;> simp[t,j]
def kH(O:cP):Prop:=∀(n:Nat) x,O.gq[n]?=I x->x.up≠U
theorem kH.put{O}(h:kH O) n B:kH (rZ O n B):=λi y j=>by
 simp only[rZ,oL,List.getElem?_set]at j;split at j
 ·split at j
  ·injection j with j;subst j;exact λe=>AU
  ·cases j
 ·exact h i y j
theorem kH.tick{O}(h:kH O) n:kH (pw O n).1:=by
 unfold pw;split
 ·split
  ·exact h
  ·exact h.put n _
 ·exact h
theorem kH.EB{O}(h:kH O) a b:kH (nJ O a b).1:=by
 unfold nJ;split
 ·exact h
 ·exact h
 ·dsimp only;split
  ·exact h
  ·exact kH.put (O:={ O with dR:=_ }) h b _
theorem kH.drain a b:∀(j:Nat) {O:cP},kH O->kH (Be a b j O)
 | 0,_,h=>h
 | j+1,_,h=>kH.drain a b j (h.EB a b)
theorem kH.FZ n:∀(l:List Nat) {O:cP},kH O->kH (l.foldl (λO (t:Nat)=>if t=n then O else Be n t (pz O n t) O) O)
 | [],_,h=>h
 | t :: l,_,h=>kH.FZ n l (by dsimp only;split;exact h;exact kH.drain _ _ _ h)
theorem kH.turns:∀(l:List Nat) {O:cP},kH O->kH (l.foldl vK O)
 | [],_,h=>h
 | t :: l,_,h=>kH.turns l (by unfold vK;split;exact kH.FZ t _ (h.tick t);exact h)
theorem kH.IP{O}(h:kH O) c:kH (jE O c).1:=by
 unfold jE;split
 ·split
  ·exact h
  ·dsimp only;split
   ·exact h
   ·exact h
 ·exact h
theorem kH.new{par bj room}:kH (lZ par bj room):=λn x j=>by simp only[lZ,List.getElem?_map,Option.map_eq_some_iff]at j;obtain⟨m,-,rfl⟩:=j;exact λe=>AU
theorem QO.ayy{O par bj k}(h:QO O)(j:dh par bj O k)(H:kH O) c:(jE O c).2.2=(if 0<=c/\c<(Q bj:Int)then 0 else 1)/\(jE O c).2.1=[]:=by
 unfold jE mO;rw[j.EW];by_cases hc:0<=c/\c<(Q bj:Int)
 ·rw[bT bG,bT hc];have A:=j.iK.hm;rw[j.EW,j.uA]at A;have t:c.toNat<Q bj:=aZ;have hx:iJ par bj[c.toNat]=true:=by
   grind [jE,nV]
  have hn:oH O c=bj[c.toNat]:=by unfold oH;rw[j.EW,aE t];rfl
  rw[hn];cases hq:eF O bj[c.toNat]with
  | none => obtain⟨m,e,hm,d,s,L,-⟩:=j.down (by unfold mq;rw[j.uA];exact hx) hq;exact absurd rfl (H m _ L)
  | some B =>
   have z:=h.up hq;obtain⟨-,-,-,y⟩:=j.up hq;have C:(O.cur[c.toNat]?).getD 0=0:=amS;have hb:AZ B c=true:=by unfold AZ;rw[y.2.2,y.1];simp[t,hc]
   have e:nu B c 0=([],0,0):=by unfold nu;rw[hb,z.st.l];rfl
   rw[C];simp only[e];exact⟨rfl,rfl⟩
 ·rw[bO Ev,bO hc];exact⟨rfl,rfl⟩
structure QA(par bj:List Int)(O:cP)(k:Nat):Prop where
 q:QO O
 i:dh par bj O k
 u:kH O
theorem QA.step{O par bj k ids}(h:QA par bj O k)(hp:Q par<=6)(hk:k+588<=40000)(x:eI)(A:x.kind=8∨x.kind=17∨x.kind=16) :
 ∃z,(fZ (O,ids) x).1=(z,ids)/\QA par bj z (k+588)/\(fZ (O,ids) x).2.batch=[]/\(fZ (O,ids) x).2.long=0/\(fZ (O,ids) x).2.busy=0 /\
  (fZ (O,ids) x).2.err=(if x.kind=16/\¬(0<=x.a/\x.a<(Q bj:Int))then 1 else 0):=by
 rcases A with e|e|e
 ·simp only[fZ,e];exact⟨_,rfl,⟨h.q.round,h.i.round hp aZ,kH.turns _ h.u⟩,rfl,rfl,rfl,rfl⟩
 ·obtain⟨y,t⟩:=h.q.state x.a;simp only[fZ,e];refine⟨_,rfl,⟨h.q,h.i.mono aZ,h.u⟩,rfl,?_,?_,rfl⟩
  ·show (Q (oC O x.a).list:Int)=0;rw[y.l];rfl
  ·show ((Dk O x.a:Nat):Int)=0;rw[t];rfl
 ·obtain⟨y,t⟩:=h.q.ayy h.i h.u x.a;have B:=(h.q.IP x.a).seen x.a;simp only[fZ,e];refine⟨_,rfl,⟨h.q.IP _,(h.i.IP _).mono aZ,h.u.IP _⟩,t,B.1,rfl,?_⟩;show (jE O x.a).2.2=_;rw[y];by_cases j:0<=x.a/\x.a<(Q bj:Int)
  ·rw[bT j,bO (by simp[j])]
  ·rw[bO j,bT ⟨trivial,j⟩]
theorem af9{par bj}(hp:Q par<=6):∀(l:List eI) {O k ids},QA par bj O k->k+588*Q l<=40000->(∀x∈l,x.kind=8∨x.kind=17∨x.kind=16) ->
 ∀i (h1:i<Q l) (h2:i<Q (jS (O,ids) l)),(jS (O,ids) l)[i].batch=[]/\(jS (O,ids) l)[i].long=0/\(jS (O,ids) l)[i].busy=0/\(jS (O,ids) l)[i].err=(if l[i].kind=16/\¬(0<=l[i].a/\l[i].a<(Q bj:Int))then 1 else 0)
 | [],_,_,_,_,_,_,i,h1,_=>by cases h1
 | x :: l,O,k,ids,h,hk,hx,i,h1,h2=>by
  simp only[fY]at hk
  obtain⟨z,e,t,q⟩:=h.step (ids:=ids) hp aZ x (hx x (List.mem_cons_self ..))
  cases i with
  | zero=>exact q
  | succ i => simp only[jS,List.getElem_cons_succ];have:=af9 hp l (ids:=ids) t aZ (λy j=>hx y (List.mem_cons_of_mem _ j)) i Cx (by rw[Hp];simpa using h1);simpa only[e]using this
theorem aDE:jQ (eY (eJ eP))<=60000:=by decide +kernel
theorem awF{par bj:List Int}{l:List eI}(hp:Q par<=6)(H:Q l<=40)(B:∀x∈l,x.kind=8∨x.kind=17∨x.kind=16)(j:mD par bj 60000=0) :
 ∃r,i7 par bj 60000 l=(r,0)/\Q r=Q l/\∀i (A:i<Q l) (z:i<Q r),r[i].batch=[]/\r[i].long=0/\r[i].busy=0/\r[i].err=(if l[i].kind=16/\¬(0<=l[i].a/\l[i].a<(Q bj:Int))then 1 else 0):=by
 obtain⟨y,t⟩:iQ par=aA/\nV par bj=true:=by
  unfold mD at j;split at j
  ·rename_i y;split at j
   ·rename_i t;exact⟨y,t⟩
   ·cases j
  ·cases j
 have C:QA par bj (lZ par bj 60000) 0:=⟨QO.new,dh.new y t aDE aZ,kH.new⟩
 refine⟨_,by rw[i7,bO (by omega),bT j],Hp _ _,λi A z=>?_⟩
 exact af9 hp l (ids:=[]) C aZ B i A z
def ua(c:eI):Bool:=c.kind==8||c.kind==17||c.kind==16
def AF(l:List eI):List eI:=(l.filter ua).take 40
theorem aAC{l:List eI}{i:Nat}(t:i<Q l):(l.take (i+1)).filter ua=(l.take i).filter ua++(if ua l[i]=aA then [l[i]]else []):=by
 rw[List.take_add_one,aE t,Option.toList_some,List.filter_append];by_cases j:ua l[i]=aA
 ·rw[bT j,List.filter_cons_of_pos j,List.filter_nil]
 ·rw[bO j,List.filter_cons_of_neg j,List.filter_nil]
theorem aAD{l:List eI}{i:Nat}(h:Q l<=i∨40<=Q ((l.take i).filter ua))(hn:Q ((l.take i).filter ua)<=40):AF l=(l.take i).filter ua:=by
 unfold AF;rcases h with h|h
 ·rw[iw h]at hn⊢;exact iw hn
 ·conv=>lhs;rw[<- List.take_append_drop i l,List.filter_append]
  rw[List.take_append_of_le_length h,iw hn]
theorem XV{l:List eI}:∀c∈AF l,c.kind=8∨c.kind=17∨c.kind=16:=λc j=>by have:=(List.mem_filter.1 (lB j)).2;simp only[ua,Bool.or_eq_true,beq_iff_eq]at this;omega
theorem aAE{par bj room l}(j:Q l<=500):(i7 par bj room l).2=mD par bj room:=by
 unfold i7;rw[bO aZ];split
 ·next h=>exact h.symm
 ·rfl
theorem aB1{l:List eI}:∀c∈AF l,c∈l:=λc j=>(List.mem_filter.1 (lB j)).1
theorem as9 par bj(ops:List eI) v0 v1 v2 w(h0:bw eu par v0 w)(h1:bw eu bj v1 w)(h2:bw ly ops v2 w)(hfit:∀c∈ops,uB c)(hmx:Q ops<=maxLen) :
 aK prog 6 #[v0,v1,v2] w λe w'=>e=ak (ar aA)/\K w w':=by
 have C1:=aY λW=>QN W
 have H0:=aY λW (k:K w W)=>cH h0 k
 have H1:=aY λW (k:K w W)=>cH h1 k
 have HF:=aY hfit
 have hmx:(Q ops:Int)<=9223372036854775807:=by unfold maxLen at hmx;omega
 obtain⟨A0,c0,rfl⟩:=bD h0
 obtain⟨A1,c1,rfl⟩:=bD h1
 obtain⟨A2,c2,rfl,hl,-⟩:=h2
 have HL:=aY hl
 clear h0 h1 hl hfit
 go_in
 go_wp2_with fail
 refine (C1.aX w).mono ?_
 rintro e w1⟨rfl,k1⟩
 go_wp2_with fail
 refine (WC A0 (Q par) c0 A1 (Q bj) c1 w1).mono ?_
 rintro e w2⟨rfl,rfl⟩
 by_cases hs:Q par<=6/\Q bj<=8
 case neg => exact aan
 have gH:(decide (Q par<=6)&&decide (Q bj<=8))=true:=Th
 rw[gH]
 have jK:=bK.nil (λ_=>False) (Z (D w)) 39 ly w2
 go_wp2_with fail
 go_loopw [8,9] (fun o i W=>∃j:Nat,j<=Q ops/\i=G J j/\bK (fun _=>False) (Z (D w)) 39 ly ((ops.take j).filter ua) o W/\K w W/\Q ((ops.take j).filter ua)<=40) (fun _ i _=>Q ops-(aO i).toNat)
 case atStart=>exact⟨0,eO _,rfl,jK,k1,eO _⟩
 case round =>
  clear jK k1;obtain⟨j,hj,rfl,B,kr,hn⟩:=hrel;obtain⟨Ao,co,rfl⟩:=B.slice;by_cases hd:j<Q ops/\Q ((ops.take j).filter ua)<40
  case neg =>
   have T:=aAD (l:=ops) (i:=j) aZ hn
   have hlF:xu ly (AF ops) Ao wr:=by obtain⟨_,_,e,h,-⟩:=T▸B.bw;injection e with e;rw[e];exact h
   have HLF:=aY (T▸B.bw)
   have Cp:¬((j:Int)<Q ops/\(Q ((ops.take j).filter ua):Int)<40):=aZ
   rw[<- T]at hn Cp⊢
   have CR:=aY (Em par bj 60000 (AF ops) _ _ _ wr (H0.aX wr kr) (H1.aX wr kr) HLF.aX (λc hc=>HF.aX c (aB1 c hc)) hs.1 aZ bC (cI (RT _) aZ) (λc hc=>by have:=XV c hc;exact⟨λh=>by omega,λh=>by omega⟩))
   have HE0:=aY (Nf (par:=par) (bj:=bj) (room:=60000) (l:=AF ops))
   have Qc:=aY λ(h:(i7 par bj 60000 (AF ops)).2=0)=>awF (par:=par) (bj:=bj) (l:=AF ops) hs.1 hn XV (by rw[<- aAE (l:=AF ops) (by omega)];exact h)
   have:=aY (XV (l:=ops))
   generalize i7 par bj 60000 (AF ops)=R at *
   clear B T
   generalize AF ops=z at *
   by_cases cd:(j:Int)<Q ops
   case' pos=>have:¬(Q z:Int)<40:=aZ
   all_goals
    clear Cp
    go_wp2_with fail
    refine CR.aX.mono ?_
    rintro e L⟨v3,rfl,nZ,gG,V⟩
    have kB:=kr.tr V
    by_cases hok:R.2=0
    case neg => have:(R.2 != 0)=true:=R3;have e1:=HE0.aX hok;obtain⟨A3,c3,rfl⟩:=bD nZ;rw[e1];clear nZ gG HE0 Qc CR HLF kr V;go_wp2;go_ret;exact⟨rfl,kB⟩
    obtain⟨A,er,Vy,hall⟩:=Qc.aX hok
    subst er
    obtain⟨A3,c3,rfl,sA,-⟩:=nZ
    have HLR:=aY sA
    have HAL:=aY hall
    have HFW:=aY (N4 hlF V)
    have HKB:=aY kB
    have:((Q A:Int) != (Q z:Int))=false:=by rw[Vy];simp
    have HRN:=aY Vy
    have kk:=K.rf L
    clear sA hall gG HE0 Qc CR hok hlF kr V kB Vy
    simp only[]at *
    go_wp2_with fail
    go_loopw [12,13] (fun i _ W=>∃t:Nat,t<=Q A/\i=G J t/\K L W) (fun i _ _=>Q A-(aO i).toNat)
    case atStart=>exact⟨0,eO _,rfl,kk⟩
    case round =>
     obtain⟨t,ht,rfl,kt⟩:=hrel;by_cases iO:t<Q A
     case neg => have hti:¬(t:Int)<Q A:=aZ;have kE:=HKB.aX.tr kt;go_wp2;go_ret;exact⟨rfl,kE⟩
     have hti:(t:Int)<Q A:=aZ;have Ll:t<Q z:=by have:=HRN.aX;omega
     have:(t:Int)<Q z:=aZ;obtain⟨g1,g2,g3,g4⟩:=HAL.aX t Ll iO;obtain⟨b1,o1,cs1,rfl,-,hr1,Wc,d1⟩:=eN HFW.aX t Ll bC;obtain⟨Y,O,VC,rfl,-,cZ,Wd,d2⟩:=eN HLR.aX t iO bC;generalize z[t]=x at *;generalize A[t]=y at *;obtain⟨ve,vf,rfl,-⟩:=hr1 L (K.rf L);obtain⟨vb,rfl,hb⟩:=cZ L (K.rf L);obtain⟨Ab,cb,rfl⟩:=bD hb;have p0:wr.cell? ⟨b1,o1+t*6,U⟩=I (G J x.kind):=Wc wr kt;have p1:wr.cell? ⟨b1,o1+t*6+1,U⟩=I (G J x.a):=d1 wr kt 1 bC;have p2:wr.cell? ⟨Y,O+t*9,U⟩=I (G J y.err):=Wd wr kt;have p3:wr.cell? ⟨Y,O+t*9+5,U⟩=I (F Ab 0 cb):=(d2 wr kt 5 bC).trans SZ;have:wr.cell? ⟨Y,O+t*9+6,U⟩=I (G J 0):=(d2 wr kt 6 bC).trans (by simp[g2]);have:wr.cell? ⟨Y,O+t*9+7,U⟩=I (G J 0):=(d2 wr kt 7 bC).trans (by simp[g3]);rw[g4]at p2;clear Wc d1 Wd d2 hr1 cZ hb g1 g2 g3 g4;by_cases H:x.kind=16
     case neg =>
      rw[bO λh=>H h.1]at p2;have:(x.kind != 16)=true:=by simpa using H
      exact Ti
     rw[H]at p0;by_cases M:0<=x.a/\x.a<(Q bj:Int)
     case pos => rw[bO λh=>h.2 M]at p2;obtain⟨ha1,ha2⟩:=M;clear H;exact Ti
     rw[bT ⟨H,M⟩]at p2;clear H;by_cases ha1:0<=x.a
     ·have ha2:¬x.a<(Q bj:Int):=λh=>M ⟨ha1,h⟩
      clear M;exact Ti
     ·clear M;exact Ti
  obtain⟨hlt,hnl⟩:=hd;have cd:(j:Int)<Q ops:=aZ;have Cp:(Q ((ops.take j).filter ua):Int)<40:=aZ;have C:=aY (aAC hlt);obtain⟨b3,o3,cc,rfl,-,hrl,d0,d⟩:=eN HL.aX j hlt bC;generalize ops[j]=x at *;generalize (ops.take j).filter ua=z at *;obtain⟨ve,vf,rfl,he,hf⟩:=hrl w (K.rf w);have HX:=aY (show ly.rel x (im x ve vf).toList w from ⟨ve,vf,rfl,he,hf⟩);obtain⟨Ae,ce,rfl⟩:=tc he;obtain⟨Af,cf,rfl⟩:=dK hf;have q9:∀i,i<6->wr.cell? ⟨b3,o3+j*6+i,U⟩=(im x (F Ae (Q x.e) ce) (F Af (Q x.f) cf))[i]?:=λi hi=>(d wr kr i hi).trans aD
  have q0:wr.cell? ⟨b3,o3+j*6,U⟩=I (G J x.kind):=d0 wr kr;clear hrl d0 d he hf;have Ur:ua x=(x.kind==8||x.kind==17||x.kind==16):=rfl;rw[Ur]at C;clear Ur;by_cases hk:x.kind=8∨x.kind=17∨x.kind=16
  case neg =>
   have z1:(x.kind==8)=false:=cG;have z2:(x.kind==17)=false:=cG;have z3:(x.kind==16)=false:=cG;rw[z1,z2,z3]at C;simp only[Bool.or_self,Bool.false_eq_true,if_false,List.append_nil]at C;clear hk;go_wp2;go_roundw
   case rel=>exact⟨j+1,aZ,cU,by rw[C.aX];exact B,kr,by rw[C.aX];omega⟩
   case measure=>simp[aO];omega
  have Vd:Hid ((ops.take (j+1)).filter ua=z++[x]):=aY (by
   rw[C.aX];rcases hk with h|h|h <;> simp[h])
  have kA:=K.new wr (aq (im x (F Ae (Q x.e) ce) (F Af (Q x.f) cf)) 39);have jh:=B.st kA;have dt:=B.blk;have hr:=fL.new (S:=ly) (e:=39) (x:=x) (v:=av (im x (F Ae (Q x.e) ce) (F Af (Q x.f) cf))) (w:=wr) (N:=λb=>False∨aW (F Ao (Q z) co)=I b) (λX u=>ly.st HX.aX (u.k kr λb hb=>(dt b (hb.resolve_left id)).1)) 0 (eO _);have hz:=kr.size;have I0:=kA.size;clear C;obtain⟨xk,xa,xb,xn,xe,xf⟩:=x;dsimp only at hk q9 q0 hr kA jh I0;rcases hk with h|h|h;all_goals
   subst h
   go_wp2_with (at_builtin;refine kI rfl _ _ 25 rfl _ 6 80 Qx rfl rfl jh _ rfl _ hr ?p2 ?p3 ?_)
   case p2=>omega
   case p3=>exact cI hz (aH _)
   intro v9 w9 cR dF fO cN
   have kF:=(kr.tr kA).trans cN
   go_wp2
   go_roundw
   case rel=>exact⟨j+1,aZ,cU,by rw[Vd.aX];exact cR,kF,by rw[Vd.aX];simp;omega⟩
   case measure=>simp[aO];omega
theorem arW(t j y:aQ)(w:aP)(L:Ij w t)(N:Ij w j)(C:Tx w y) :
 aK prog 6 #[t,j,y] w λe w'=>e=ak (ar aA)/\aN (Z (D w)) w w':=by
 obtain⟨par,A,-⟩:=L
 obtain⟨bj,B,-⟩:=N
 obtain⟨ops,z,H,M⟩:=C
 exact as9 par bj ops t j y w A B z H M
