/-
  Filters in plain Lean: which of two values comes first, what a test asks, what may be, what bytes they are. Conditions: none.
-/
import Derived.Test.YtfndfpdhlbmboaaGreatMq00
import Derived.Sort.MapsRangeIn
import Derived.RangeFuncGives
import Derived.Test.YtfndfpdhlbmboaaGreatMqz
set_option maxRecDepth 100000
set_option maxHeartbeats 16000000
set_option linter.all false
namespace Go.Proofs.YtfndfpdhlbmboaaGreat
open Go Go.RowKit _root_.Go.Proofs.Tryz
abbrev Vl:=Int×Int×ByteArray
def i7(a b:Int):Int:=if a<b then -1 else if b<a then 1 else 0
def yS(a b:ByteArray):Int:=if mf a b then -1 else if mf b a then 1 else 0
def fP(a b:Vl):Int:=if i7 a.1 b.1 != 0 then i7 a.1 b.1 else if i7 a.2.1 b.2.1 != 0 then i7 a.2.1 b.2.1 else yS a.2.2 b.2.2
def preB(a b:ByteArray):Bool:=decide (b.size<=a.size)&&((a.extract 0 b.size).toList==b.toList)
def jK(a b:Vl):Bool:=a.1==2&&b.1==2&&preB a.2.2 b.2.2
def jc(t:cX)(v:Vl):Bool :=
 if t.2.1==8 then true else
 (v.1==t.2.2.1)&&(if t.2.1==1 then fP v t.2.2==0 else if t.2.1==2 then fP v t.2.2 != 0 else if t.2.1==3 then decide (fP v t.2.2<0)else if t.2.1==4 then decide (fP v t.2.2<=0)
  else if t.2.1==5 then decide (0<fP v t.2.2)else if t.2.1==6 then decide (0<=fP v t.2.2)else if t.2.1==7 then jK v t.2.2 else false)
def p5(t:cX)(e:List cM):Bool:=match e.find? (mJ t.1)with|some x=>jc t x.2|none=>false
def mq(f:List cX)(e:List cM):Bool:=f.all λt=>p5 t e
def gj(t:cX):Bool :=
 sO t.1&&(if t.2.1==8 then decide (t.2.2=(0,0,⟨#[]⟩))else if t.2.1==7 then iP t.2.2.1 t.2.2.2.1 t.2.2.2.2&&t.2.2.1==2 else decide (1<=t.2.1)&&decide (t.2.1<=8)&&iP t.2.2.1 t.2.2.2.1 t.2.2.2.2)
def okF(l:List cX):Bool:=decide (l.length<=8)&&l.all gj
def AV(t:cX):Int:=if gj t then 0 else 50
def nt(l:List cX):Int:=if okF l then 0 else 50
def jL(t:cX):List UInt8:=(az t.1.size++dS t.1)++(az (aZ t.2.1)++(if t.2.1==8 then []else nO t.2.2.1 t.2.2.2.1 t.2.2.2.2))
def jt(l:List cX):List UInt8:=az l.length++l.flatMap jL
def Cn(l:List cX):List UInt8:=if okF l then jt l else []
def fX:Bg cX:=λl wr =>
 if 8<(aw (aM 16 l wr).2.1 (aM 16 l wr).2.2).1 then ((⟨#[]⟩,0,0,0,⟨#[]⟩),(aw (aM 16 l wr).2.1 (aM 16 l wr).2.2).2.1,true)
 else if (aw (aM 16 l wr).2.1 (aM 16 l wr).2.2).1=8 then ((⟨(aM 16 l wr).1.toArray⟩,8,0,0,⟨#[]⟩),(aw (aM 16 l wr).2.1 (aM 16 l wr).2.2).2)
 else ((⟨(aM 16 l wr).1.toArray⟩,((aw (aM 16 l wr).2.1 (aM 16 l wr).2.2).1:Int),(fC (aw (aM 16 l wr).2.1 (aM 16 l wr).2.2).2.1 (aw (aM 16 l wr).2.1 (aM 16 l wr).2.2).2.2).1.1,
  (fC (aw (aM 16 l wr).2.1 (aM 16 l wr).2.2).2.1 (aw (aM 16 l wr).2.1 (aM 16 l wr).2.2).2.2).1.2.1,⟨(fC (aw (aM 16 l wr).2.1 (aM 16 l wr).2.2).2.1 (aw (aM 16 l wr).2.1 (aM 16 l wr).2.2).2.2).1.2.2.toArray⟩),
  (fC (aw (aM 16 l wr).2.1 (aM 16 l wr).2.2).2.1 (aw (aM 16 l wr).2.1 (aM 16 l wr).2.2).2.2).2)
def Ei(b:List UInt8):List cX×List UInt8×Bool:=dw fX (aw b false).1 (aw b false).2.1 (aw b false).2.2
def qV(b:List UInt8):Option (List cX) :=
 if decide ((aw b false).1<=8)&&!(Ei b).2.2&&(Ei b).2.1.isEmpty&&okF (Ei b).1 then some (Ei b).1 else none
def vu(b:List UInt8):List cX:=(qV b).getD []
def vA(b:List UInt8):Int:=if (qV b).isSome then 0 else 50
theorem DK{l}(h:okF l=true):l.length<=8/\∀x∈l,gj x=true:=by
 grind [okF,gj]
theorem Fu{t}(h:gj t=true):t.1.size<=16/\1<=t.2.1/\t.2.1<=8/\(t.2.1=8->t.2.2=(0,0,⟨#[]⟩))/\(t.2.1≠8->iP t.2.2.1 t.2.2.2.1 t.2.2.2.2=true):=by
 grind [gj,iP,sO]
theorem awv l wr:(fX l wr).2.1.length<=l.length:=by
 grind [DU,nK,aM,PR,aw,fX]
theorem aww t(h:gj t=true/\iB t) rest:fX (jL t++rest) false=(t,rest,false):=by
 obtain⟨y,j⟩:=h;obtain⟨A,B,h8,G,u⟩:=Fu y;obtain⟨s,op,k,n,x⟩:=t;simp only at A B h8 G u j;have hk:aZ op=op.toNat:=by grind [aZ]
 have F:aM 16 (jL (s,op,k,n,x)++rest) false=(dS s,az (aZ op)++(if op==8 then []else nO k n x)++rest,false):=by
  have:=FA 16 (dS s) aY aY (az (aZ op)++(if op==8 then []else nO k n x)++rest)
  rw[show (dS s).length=s.size by simp]at this
  unfold jL
  grind
 have C:=qR (aZ op) (gH op) ((if op==8 then []else nO k n x)++rest);unfold fX;rw[F];simp only;rw[dQ (az (aZ op)),C];simp only;rw[if_neg af];by_cases E:op=8
 ·simp_all
 ·rw[if_neg af,if_neg aB];have D:=aeb k n x (u E) j.2.2.1 j.2.2.2 rest;rw[D];cases s;grind [Prod.mk.injEq]
theorem auF l wr(h:(fX l wr).2.2=false):l=jL (fX l wr).1++(fX l wr).2.1/\wr=false:=by
 have E:=nM (aM 16 l wr).2.1 (aM 16 l wr).2.2;unfold fX at h⊢;split at h
 ·cases h
 ·rename_i h8;rw[if_neg h8];split at h
  ·rename_i j;rw[if_pos j];obtain⟨t,u⟩:=tI h;obtain⟨A,_,B⟩:=DR u;refine⟨?_,B⟩;unfold jL;simp only;have y:(⟨(aM 16 l wr).1.toArray⟩:ByteArray).size=(aM 16 l wr).1.length:=VF;rw[y,show dS ⟨(aM 16 l wr).1.toArray⟩=(aM 16 l wr).1 by simp[dS]];rw[show aZ (8:Int)=(aw (aM 16 l wr).2.1 (aM 16 l wr).2.2).1 by rw[j];rfl];rw[if_pos ax,List.append_nil,dQ,<- t];exact A
  ·rename_i j;rw[if_neg j];obtain⟨C,_,D,_⟩:=Vc h;obtain⟨t,u⟩:=tI D;obtain⟨A,_,B⟩:=DR u;refine⟨?_,B⟩;unfold jL;simp only;have y:(⟨(aM 16 l wr).1.toArray⟩:ByteArray).size=(aM 16 l wr).1.length:=VF;rw[y,show dS ⟨(aM 16 l wr).1.toArray⟩=(aM 16 l wr).1 by simp[dS]];rw[show aZ ((aw (aM 16 l wr).2.1 (aM 16 l wr).2.2).1:Int)=(aw (aM 16 l wr).2.1 (aM 16 l wr).2.2).1 by unfold aZ;omega];rw[if_neg aY,dQ,dQ (az (aw (aM 16 l wr).2.1 (aM 16 l wr).2.2).1),<- C,<- t];exact A
theorem Ii:Eh jL (λt=>gj t=true/\iB t) fX:=⟨aww,auF,awv⟩
theorem awx l wr:iB (fX l wr).1/\(fX l wr).1.1.size<=16:=by
 grind [Ip,afb,aw,aM,fX,iB,bR,ByteArray.size]
theorem aq7 l(A:okF l=true)(y:∀x∈l,iB x) rest:aw (jt l++rest) false=(l.length,l.flatMap jL++rest,false)/\Ei (jt l++rest)=(l,rest,false):=by
 obtain⟨C,t⟩:=DK A
 have u:aw (jt l++rest) false=(l.length,l.flatMap jL++rest,false):=by
  grind [jt,dQ,qR]
 refine⟨u,?_⟩
 have:=afg Ii l (λx j=>⟨t x j,y x j⟩) rest l.length (aD _)
 unfold Ei
 grind
theorem auG l(j:okF l=true)(t:∀x∈l,iB x):qV (jt l)=some l:=by
 have h:=aq7 l j t []
 rw[List.append_nil]at h
 have:=(DK j).1
 unfold qV
 grind
theorem ado{b y}(h:qV b=some y):b=jt y/\okF y=true/\∀x∈y,iB x:=by
 unfold qV at h;split at h
 ·rename_i C;injection h with h;simp only[dz,Bool.not_eq_true',List.isEmpty_iff,decide_eq_true_eq]at C;obtain⟨⟨⟨G,A⟩,B⟩,j⟩:=C;unfold Ei at A B j h;obtain⟨t,E⟩:=aed Ii A;obtain⟨F,_⟩:=tI E;have u:=(Ll Ii (aw b false).1 (aw b false).2.1 (aw b false).2.2).2;have hfit:=aff (λx:cX=>iB x/\x.1.size<=16) awx (aw b false).1 (aw b false).2.1 (aw b false).2.2;rw[h]at t u j hfit;rw[B,List.append_nil]at t;refine⟨?_,j,λx D=>(hfit x D).1⟩;unfold jt;rw[u,<- t];exact F
 ·cases h
theorem asC t w :
 Calls prog 313 #[ry t] w λe w'=>e=.returned (.int .i64 (AV t))/\Below w.heap.size w w':=by
 obtain⟨s,op,k,n,x⟩:=t
 have hb0:Below w.heap.size w (w.alloc (.cells #[.string s,.int .i64 op,.int .i64 k,.int .i64 n,.string x] 73)):=(cP _ _).alloc (aD _) _
 have L:=ah.new w 73 #[.string s,.int .i64 op,.int .i64 k,.int .i64 n,.string x]
 have HT:Hid (gj (s,op,k,n,x)=(sO s&&(if op==8 then decide ((k,n,x)=(0,0,(⟨#[]⟩:ByteArray)))else if op==7 then iP k n x&&k==2 else decide (1<=op)&&decide (op<=8)&&iP k n x))):=ae rfl
 have ru:Hid (gj (s,op,k,n,x)=false->AV (s,op,k,n,x)=50):=ae (λh=>by simp[AV,h])
 have A:Hid (gj (s,op,k,n,x)=true->AV (s,op,k,n,x)=0):=ae (λh=>by simp[AV,h])
 go_in
 go_wp2_with fail
 apply aI (Uz s _)
 rintro w' rfl
 cases hn:sO s
 ·have HE:=ae (ru.aa (by rw[HT.aa,hn];rfl));go_wp2;go_ret;exact⟨iq,hb0⟩
 by_cases M:op<1
 ·exact afj
 by_cases h8:8<op
 ·exact afj
 go_wp2_with fail
 apply aI (OW k n x _)
 intro N C
 have j:=L.ay C
 have dP:=hb0.trans (C.mono hb0.size)
 have E:=j.cell 1
 have I:=j.cell 2
 have G:=j.cell 3
 have H:=j.cell 4
 simp at E I G H
 have HC:Hid ((mc k n x==0)=iP k n x):=ae (by unfold mc;cases iP k n x <;> rfl)
 by_cases y:op=7
 ·have HE:Hid (gj (s,op,k,n,x)=(iP k n x&&k==2)):=by simp_all
  have J:(op==7)=true:=by simp[y]
  have B:(op==8)=false:=by simp[y]
  cases hv:iP k n x
  ·have u:(mc k n x==0)=false:=PS;have HF:=ae (ru.aa (by rw[HE.aa,hv];rfl));exact FN
  ·have u:(mc k n x==0)=true:=PS;cases hk:(k==2)
   ·have HF:=ae (ru.aa afk);exact FN
   ·have HF:=ae (A.aa afk);exact FN
 ·have J:(op==7)=false:=by simp[y]
  by_cases D:op=8
  ·have HE:Hid (gj (s,op,k,n,x)=decide ((k,n,x)=(0,0,(⟨#[]⟩:ByteArray)))):=by simp_all
   have B:(op==8)=true:=by simp[D]
   have:=awu k n 0 0 x ⟨#[]⟩;generalize F:decide ((k,n,x)=(0,0,(⟨#[]⟩:ByteArray)))=d at *;have:=ae F;cases d
   ·have HF:=ae (ru.aa Lm);exact FN
   ·have HF:=ae (A.aa Lm);exact FN
  ·have HE:Hid (gj (s,op,k,n,x)=iP k n x):=by simp_all
   have B:(op==8)=false:=by simp[D]
   cases hv:iP k n x
   ·have u:(mc k n x==0)=false:=PS;have HF:=ae (ru.aa (by rw[HE.aa,hv]));exact FN
   ·have u:(mc k n x==0)=true:=PS;have HF:=ae (A.aa (by rw[HE.aa,hv]));exact FN
theorem awy l k(h:k<l.length)(hb:gj l[k]=false):nt l=50:=by
 grind [gj,nt,okF]
theorem auH l(h8:l.length<=8)(h:∀x∈l.take l.length,gj x=true):nt l=0:=by
 grind [gj,nt,okF]
theorem asD(l:List cX)(k:Nat)(h:k<l.length)(ha:∀x∈l.take k,gj x=true)(hb:gj l[k]=true):∀x∈l.take (k+1),gj x=true:=afl
theorem aq8 t:(AV t=0/\gj t=true)∨(AV t=50/\gj t=false):=by
 grind [AV,gj]
theorem Uj A c l w B(O:Reads w B 5 A l.length (l.flatMap fq))(X:B<=w.heap.size) :
 Calls prog 287 #[.slice A l.length c] w λe w'=>e=.returned (.int .i64 (nt l))/\Below w.heap.size w w':=by
 by_cases h8:8<l.length
 ·have S:(8:Int)<(l.length:Int):=af;have HE:Hid (nt l=50):=ae (by simp[nt,okF,show ¬l.length<=8 by omega]);generalize l.length=n at *;go_in;go_wp2;go_ret;exact⟨iq,cP _ _⟩
 have S:¬(8:Int)<(l.length:Int):=af
 have N:=ae O
 go_in
 go_wp2_with fail
 go_loopw [11] (fun i wr=>∃k:Nat,k<=l.length/\i=.int .i64 k/\Hid (∀x∈l.take k,gj x=true)/\Below w.heap.size w wr) (fun i _=>l.length-(intOf i).toNat)
 case atStart=>exact⟨0,af,rfl,ae aj,cP _ _⟩
 case round =>
  obtain⟨k,hk,rfl,I,hb⟩:=hrel;by_cases G:k<l.length
  ·have fe:(k:Int)<l.length:=af;obtain⟨b,t,rfl,W,R⟩:=N.aa.I5 af;obtain⟨e0,V,L,M,T⟩:=R k G;have j:=bw W X;have d0:=(hb.cell (p:=⟨b,t+k*5,none⟩) j).trans e0;have d1:=(hb.cell (p:=⟨b,t+k*5+1,none⟩) j).trans V;have d2:=(hb.cell (p:=⟨b,t+k*5+2,none⟩) j).trans L;have d3:=(hb.cell (p:=⟨b,t+k*5+3,none⟩) j).trans M;have Q:=(hb.cell (p:=⟨b,t+k*5+4,none⟩) j).trans T;have Y:=ae (asD l k G I.aa);have EI:=ae (awy l k G);have hz:=hb.size;generalize l[k]=x at *;obtain⟨xs,E,u,C,y⟩:=x;simp only at d0 d1 d2 d3 Q;go_wp2_with fail
   apply aI (asC (xs,E,u,C,y) _);intro w2 hb2;have H:=(hb.alloc hz _).trans (hb2.mono aY);rcases aq8 (xs,E,u,C,y)with ⟨D,F⟩|⟨D,F⟩
   ·have J:(AV (xs,E,u,C,y) != 0)=false:=by rw[D];rfl
    have U:=ae (Y.aa F);go_wp2;go_roundw
    case rel=>exact⟨k+1,af,bD,U,H⟩
    case measure=>simp[intOf];omega
   ·have J:(AV (xs,E,u,C,y) != 0)=true:=by rw[D];rfl
    have HE:=ae (EI.aa F);have Z:=ae D;go_wp2;go_ret;exact⟨by rw[HE.aa,<- Z.aa];rfl,H⟩
  ·have fe:¬(k:Int)<l.length:=af;have HE:=ae (auH l af (by
    have:=I.aa;rwa [show k=l.length by omega]at this))
   go_wp2;exact PT
theorem acK{l v w}(h:eI l v w):Calls prog 287 #[v] w λe w'=>e=.returned (.int .i64 (nt l))/\Below w.heap.size w w':=by obtain⟨A,c,rfl,j⟩:=h;exact Uj A c l w _ j (aD _)
theorem auI:(prog.info? 73).map (λi=>(i.zero,i.size,i.bytes))=some (some (.agg #[.string { data:=#[] },.int .i64 0,.int .i64 0,.int .i64 0,.string { data:=#[] }]),5,56):=by rfl
theorem TF:fS prog 53 73 (.agg #[.string { data:=#[] },.int .i64 0,.int .i64 0,.int .i64 0,.string { data:=#[] }]) 5 56:=⟨underlying53,auI,rfl,ax⟩
abbrev fQ(w:World)(base:Nat)(v:Value)(l:List cX):Prop:=w.ownsRow base 73 5 v l.length (l.flatMap fq)
theorem fQ.slice{w base v l}(h:fQ w base v l):∃A c,v=.slice A l.length c/\Reads w w.heap.size 5 A l.length (l.flatMap fq)/\l.length<=c/\c<=maxLen:=afc
theorem aeg x:∀u∈fq x,u.oneCell'=true:=by intro u hu;exact VG
theorem xc{w base v l}(h:fQ w base v l):eI l v w:=by
 obtain⟨A,c,rfl,j,_⟩:=h.slice
 grind [eI]
theorem asE b k(hk:k<=(aw b false).1)(h:(dw fX k (aw b false).2.1 (aw b false).2.2).2.2=true):vA b=50/\vu b=[]:=by
 have:(Ei b).2.2=true:=by have:=VE Ii h ((aw b false).1-k);rwa [show k+((aw b false).1-k)=(aw b false).1 by omega]at this
 have j:qV b=none:=by grind [qV]
 simp[vA,vu,j]
theorem auJ l wr(h:8<(aw (aM 16 l wr).2.1 (aM 16 l wr).2.2).1):(fX l wr).2.2=true:=by
 grind [aw,aM,fX]
theorem asF l wr(h:(aw (aM 16 l wr).2.1 (aM 16 l wr).2.2).1=8):fX l wr=((⟨(aM 16 l wr).1.toArray⟩,8,0,0,⟨#[]⟩),(aw (aM 16 l wr).2.1 (aM 16 l wr).2.2).2):=by
 grind [aw,aM,fX]
theorem auK l wr(h:(aw (aM 16 l wr).2.1 (aM 16 l wr).2.2).1<8):fX l wr=((⟨(aM 16 l wr).1.toArray⟩,((aw (aM 16 l wr).2.1 (aM 16 l wr).2.2).1:Int),(fC (aw (aM 16 l wr).2.1 (aM 16 l wr).2.2).2.1 (aw (aM 16 l wr).2.1 (aM 16 l wr).2.2).2.2).1.1,
 (fC (aw (aM 16 l wr).2.1 (aM 16 l wr).2.2).2.1 (aw (aM 16 l wr).2.1 (aM 16 l wr).2.2).2.2).1.2.1,⟨(fC (aw (aM 16 l wr).2.1 (aM 16 l wr).2.2).2.1 (aw (aM 16 l wr).2.1 (aM 16 l wr).2.2).2.2).1.2.2.toArray⟩),
 (fC (aw (aM 16 l wr).2.1 (aM 16 l wr).2.2).2.1 (aw (aM 16 l wr).2.1 (aM 16 l wr).2.2).2.2).2):=by
 grind [aw,aM,fX,fC]
theorem auL k l bad s(j:dw fX k l bad=s):dw fX (k+1) l bad=(s.1++[(fX s.2.1 s.2.2).1],(fX s.2.1 s.2.2).2):=by subst j;rfl
theorem aow A n c b w B(hR:Reads w B 1 A n (dN b))(hB:B<=w.heap.size)(hn:n<=1000000000) :
 Calls prog 274 #[.slice A n c] w λe w' =>
  ∃v',e=.returned (.tuple #[v',.int .i64 (vA b)])/\fQ w' w.heap.size v' (vu b)/\Below w.heap.size w w':=by
 have bS:b.length=n:=FI
 have hle:b.length<=1000000000:=af
 clear bS
 go_in
 go_wp2_with fail
 refine (KV A n c b w B hR hB hn).mono ?_
 rintro e w1⟨g,rfl,hg,hr1,aR⟩
 go_wp2_with fail
 refine (sM g b false w1 hr1).mono ?_
 rintro e w2⟨rfl,bG,dZ⟩
 have Q:=hr1.lt
 have hz2:=dZ.size
 have dP:=aR.trans (ku dZ hg aR.size)
 have hlt:=nM b false
 have X8:=nK b false
 have HB:=ae (asE b)
 have HD:Hid (qV b=if decide ((aw b false).1<=8)&&!(dw fX (aw b false).1 (aw b false).2.1 (aw b false).2.2).2.2&&(dw fX (aw b false).1 (aw b false).2.1 (aw b false).2.2).2.1.isEmpty&&okF (dw fX (aw b false).1 (aw b false).2.1 (aw b false).2.2).1 then some (dw fX (aw b false).1 (aw b false).2.1 (aw b false).2.2).1 else none):=ae rfl
 generalize aw b false=a at *
 obtain⟨m,l,bad⟩:=a
 simp only at bG hlt X8 HD HB⊢
 clear hr1 aR hR
 by_cases jn:m<=8
 rotate_left
 ·have yP:(8:Int)<(m:Int):=af;have HE:Hid (vA b=50):=ae (by have:=HD.aa;simp[jn]at this;simp[vA,this]);have HL:Hid (vu b=[]):=ae (by have:=HD.aa;simp[jn]at this;simp[vu,this]);exact afm
 have yP:¬(8:Int)<(m:Int):=af
 go_wp2_with fail
 go_loopw [6,7,8,16] (fun v _ _ i j=>∃k:Nat,k<=m/\i=.int .u64 k/\fQ j w1.heap.size v (dw fX k l bad).1/\Rd j g (dw fX k l bad).2.1 (dw fX k l bad).2.2/\Below w.heap.size w j/\w1.heap.size<=j.heap.size) (fun _ _ _ i _=>m-(intOf i).toNat)
 case atStart=>exact⟨0,af,rfl,jV _ _ _ _,bG,dP,hz2⟩
 case round =>
  obtain⟨k,hk,rfl,M,S,hb,hz⟩:=hrel;by_cases hlt:k<m
  ·have fe:(k:Int)<m:=af;have hlk:=Ll Ii k l bad;have hfit:=auL k l bad;have Jo:=HB.aa (k+1) af;generalize hs:dw fX k l bad=s at *;replace hfit:=hfit s rfl;obtain⟨E,t,j⟩:=s;simp only at M S hlk hfit;rw[hfit]at Jo;obtain⟨azw,Ri⟩:=hlk;have azx:E.length<=8:=af;clear Ri;have C1:=ae (OK g t j 16 wr S af af af);have kQ:=DU 16 t j;have F8:=ae λh=>Jo (auJ t j h)
   have FE:=ae λh=>hfit.trans (show ((E,t,j).1++[(fX t j).1],(fX t j).2)=_ by rw[asF t j h])
   have FL:=ae λh=>hfit.trans (show ((E,t,j).1++[(fX t j).1],(fX t j).2)=_ by rw[auK t j h])
   clear hfit hs Jo;have fg:=nK (aM 16 t j).2.1 (aM 16 t j).2.2;have vH:=nM (aM 16 t j).2.1 (aM 16 t j).2.2;have C2:Hid (∀W,Rd W g (aM 16 t j).2.1 (aM 16 t j).2.2->Calls prog 192 #[.pointer (some ⟨g,0,none⟩)] W λe w'=>e=.returned (.int .u64 ((aw (aM 16 t j).2.1 (aM 16 t j).2.2).1:Nat))/\nU g (aw (aM 16 t j).2.1 (aM 16 t j).2.2).2.1 (aw (aM 16 t j).2.1 (aM 16 t j).2.2).2.2 W w'):=ae λW hW=>sM g _ _ W hW
   generalize aM 16 t j=sb at *;obtain⟨J,lb,wb⟩:=sb;simp only at C1 C2 F8 FE FL kQ fg vH;generalize aw lb wb=sn at *;obtain⟨op,lo,O⟩:=sn;simp only at C2 F8 FE FL fg vH;have pO:=PR lo O;have C3:Hid (∀W,Rd W g lo O->Calls prog 308 #[.pointer (some ⟨g,0,none⟩)] W λe w'=>e=.returned (vd (fC lo O).1)/\nU g (fC lo O).2.1 (fC lo O).2.2 W w'):=ae λW hW=>abT g _ _ W hW af
   generalize fC lo O=sv at *;obtain⟨⟨X,vn,vt⟩,lv,wv⟩:=sv;simp only[vd]at C3 FL pO;have sq:g<wr.heap.size:=af;go_wp2_with fail
   refine C1.aa.mono ?_;rintro e u⟨v3,rfl,fL,dU,iO⟩;have hst:=str (eK fL);have iQ:=iO.size;have Ef:=Lj M iO Q;have bP:=hb.trans (ku iO hg hb.size);clear M S iO hb C1;go_wp2_with fail
   have fM:=ah.new u 73 #[.string ⟨J.toArray⟩,.int .i64 0,.int .i64 0,.int .i64 0,.string ⟨#[]⟩];have Rj:Below u.heap.size u (u.alloc (.cells #[.string ⟨J.toArray⟩,.int .i64 0,.int .i64 0,.int .i64 0,.string ⟨#[]⟩] 73)):=(cP _ _).alloc (aD _) _;have akc:=dU.below Rj af;have ajA:=pZ Ef Rj;have X9:=bP.trans (Rj.mono bP.size);have hhz:u.heap.size<(u.alloc (.cells #[.string ⟨J.toArray⟩,.int .i64 0,.int .i64 0,.int .i64 0,.string ⟨#[]⟩] 73)).heap.size:=aj;have RT:g≠u.heap.size:=af;have hh1:w1.heap.size<=u.heap.size:=af;have hhw:=bP.size;have s7:u6.ownBlock≠some u.heap.size:=by intro e;have:=(Ef.lt _ e).2;omega
   clear dU Rj Ef bP hst fL;generalize u.alloc (.cells #[.string ⟨J.toArray⟩,.int .i64 0,.int .i64 0,.int .i64 0,.string ⟨#[]⟩] 73)=w3a at *;generalize u.heap.size=h at *;refine (C2.aa _ akc).mono ?_;rintro e w4⟨rfl,eN,Z⟩;have il:=Z.size;have F9:=Lj ajA Z Q;have hb4:=X9.trans (ku Z hg X9.size);have I:=fM.grown Z afn;clear ajA akc Z X9 C2 fM;by_cases h8:8<op
   ·have xC:(8:Int)<(op:Int):=af;obtain⟨hC,hL⟩:=F8.aa h8;have HC:=ae hC;have HL:=ae hL;clear hC hL h8;go_wp2;go_ret2;exact⟨_,by rw[HC.aa];rfl,PU,hb4⟩
   have xC:¬(8:Int)<(op:Int):=af;have y:=I.cell 0;have D:=I.cell 1;have G:=I.cell 2;have C:=I.cell 3;have F:=I.cell 4;have z1:=I.frozen 1;simp at y D G C F;go_upto_region 13 with fail;have U:w4.grownBy (w4.setCell ⟨h,1,none⟩ (.int .i64 op)) (some h):=DT (B4 w4 _) rfl _;have rH:=U.size;have L:=I.aP 1 (.int .i64 op);have T:=hb4.trans (ku U hhw hb4.size);have iL:=eN.below (ku U (aD h) af) af;have Mb:fQ _ _ _ _:=World.ownsRow.kept F9 U (.inr s7);clear U I hb4 eN F9 y D G C F z1;generalize w4.setCell ⟨h,1,none⟩ (.int .i64 op)=w5 at *;have y:=L.cell 0;have D:=L.cell 1;have G:=L.cell 2;have C:=L.cell 3;have F:=L.cell 4;simp at y D G C F;by_cases he:op=8
   ·have HF:=ae (FE.aa he);subst he;have aFk:w1.heap.size<=w5.heap.size:=af;go_wp2_with (at_builtin;refine iM rfl _ _ 53 rfl w1.heap.size 73 _ 5 56 TF _ _ _ rfl (p7 Mb _) (w5.heap.size+1) _ 1 1 (fq ((⟨J.toArray⟩,8,0,0,⟨#[]⟩):cX)) rfl ?c1 ?c2 ?c3 ?c5 ?_)
    case c1=>exact Reads.new w5 (fq ((⟨J.toArray⟩,8,0,0,⟨#[]⟩):cX)) 73 5 1 rfl
    case c2=>first|exact aeg _|exact⟨rfl,rfl,rfl,rfl,rfl⟩|exact⟨rfl,rfl,rfl,rfl⟩
    case c3=>omega
    case c5=>first|omega|(simp;omega)
    intro v9 w9 gJ cd eS bq;have ajB:fQ w9 w1.heap.size v9 (dw fX (k+1) l bad).1:=afo;have df:Rd w9 g (dw fX (k+1) l bad).2.1 (dw fX (k+1) l bad).2.2:=by rw[HF.aa];exact (iL.ay (Below.alloc (cP _ _) (aD _) _)).below bq Q
    have akd:=(T.alloc T.size _).trans (bq.mono af);exact afp
   ·have HF:=ae (FL.aa af);have hne:¬(op:Int)=8:=af;go_wp2_with fail
    refine (C3.aa _ iL).mono ?_;rintro e w6⟨rfl,oV,R⟩;have xE:=R.size;have Q6:=Lj Mb R Q;have N:=T.trans (ku R hg T.size);have H:=L.grown R afn;clear Mb iL R T C3 L y D G C F;have y:=H.cell 0;have D:=H.cell 1;have G:=H.cell 2;have C:=H.cell 3;have F:=H.cell 4;have z2:=H.frozen 2;have z3:=H.frozen 3;have z4:=H.frozen 4;simp at y D G C F;go_upto_region 15 with fail;have V:=DT (DT (DT (B4 w6 (some h)) (p:=⟨h,2,none⟩) rfl (.int .i64 X)) (p:=⟨h,3,none⟩) rfl (.int .i64 vn)) (p:=⟨h,4,none⟩) rfl (.string ⟨vt.toArray⟩);have Jp:=V.size;have Y:=((H.aP 2 (.int .i64 X)).aP 3 (.int .i64 vn)).aP 4 (.string ⟨vt.toArray⟩);have jm:=N.trans (ku V hhw N.size);have jP:=oV.below (ku V (aD h) af) af;have ayT:fQ _ _ _ _:=World.ownsRow.kept Q6 V (.inr s7);clear V H N oV Q6 y D G C F z2 z3 z4;generalize ((w6.setCell ⟨h,2,none⟩ (.int .i64 X)).setCell ⟨h,3,none⟩ (.int .i64 vn)).setCell ⟨h,4,none⟩ (.string ⟨vt.toArray⟩)=w7 at *;have y:=Y.cell 0;have D:=Y.cell 1;have G:=Y.cell 2;have C:=Y.cell 3;have F:=Y.cell 4;simp at y D G C F;have aFl:w1.heap.size<=w7.heap.size:=af;go_wp2_with (at_builtin;refine iM rfl _ _ 53 rfl w1.heap.size 73 _ 5 56 TF _ _ _ rfl (p7 ayT _) (w7.heap.size+1) _ 1 1 (fq ((⟨J.toArray⟩,(op:Int),X,vn,⟨vt.toArray⟩):cX)) rfl ?c1 ?c2 ?c3 ?c5 ?_)
    case c1=>exact Reads.new w7 (fq ((⟨J.toArray⟩,(op:Int),X,vn,⟨vt.toArray⟩):cX)) 73 5 1 rfl
    case c2=>first|exact aeg _|exact⟨rfl,rfl,rfl,rfl,rfl⟩|exact⟨rfl,rfl,rfl,rfl⟩
    case c3=>omega
    case c5=>first|omega|(simp;omega)
    intro v9 w9 gJ cd eS bq;have ajB:fQ w9 w1.heap.size v9 (dw fX (k+1) l bad).1:=afo;have df:Rd w9 g (dw fX (k+1) l bad).2.1 (dw fX (k+1) l bad).2.2:=by rw[HF.aa];exact (jP.ay (Below.alloc (cP _ _) (aD _) _)).below bq Q
    have akd:=(jm.alloc jm.size _).trans (bq.mono af);exact afp
  ·have fe:¬(k:Int)<m:=af;obtain rfl:k=m:=af;clear hlt hk;have hlk:=(Ll Ii k l bad).2;generalize dw fX k l bad=s at *;obtain⟨E,t,j⟩:=s;simp only at M S HD hlk;clear hlk;have Mc:∀x:Bool,x=(!j&&t.isEmpty&&okF E)->Hid (vA b=(if x then 0 else 50))/\Hid (vu b=if x then E else []):=by
    intro x hx
    have h:=HD.aa
    rw[show (decide (k<=8))=true by simp;omega]at h
    cases x with
    | true=>rw[Bool.true_and,<- hx]at h;exact⟨ae (by simp[vA,h]),ae (by simp[vu,h])⟩
    | false=>rw[Bool.true_and,<- hx]at h;exact⟨ae (by simp[vA,h]),ae (by simp[vu,h])⟩
   have RU:=ae Mc;clear Mc;go_wp2_with fail
   refine (KJ g _ _ wr S).mono ?_;rintro e w'⟨rfl,rfl⟩;cases hd:(!j&&t.isEmpty)
   ·exact afq
   ·obtain⟨A',c',rfl,hR',_,_⟩:=M.slice;have hrow:=mo (bo hg (Nat.le_of_lt Q)) M;go_wp2_with fail
    refine (Uj A' c' E wr wr.heap.size hR' (aD _)).mono ?_;rintro e w6⟨rfl,N⟩;have Ya:=hb.trans (N.mono hb.size);have Q7:=pZ hrow N;cases hok:okF E
    ·have hne:(nt E != 0)=true:=PW;exact afr
    ·have hne:(nt E != 0)=false:=PW;exact afs
theorem aq9{b v w}(h:sl b v w)(hn:b.length<=1000000000):Calls prog 274 #[v] w λe w' =>
 ∃v',e=.returned (.tuple #[v',.int .i64 (vA b)])/\fQ w' w.heap.size v' (vu b)/\Below w.heap.size w w':=by
 obtain⟨A,c,rfl,j⟩:=h
 exact aow A _ c b w _ j (aD _) hn
abbrev K(w W:World):Prop:=Below w.heap.size w W
section
variable {a b c w w' w'':World} {B g base lo:Nat} {row:Option Nat}
theorem K.rf w:K w w:=cP _ _
theorem _root_.Go.RowKit.Below.tr(h:Below a.heap.size a b)(k:Below b.heap.size b c):Below a.heap.size a c:=h.trans (k.mono h.size)
theorem _root_.Go.RowKit.Below.al(h:Below a.heap.size a b)(o:Obj):Below a.heap.size a (b.alloc o):=h.alloc h.size o
theorem K.new w o:K w (w.alloc o):=(K.rf w).al o
theorem K.kK w j t:K w ((w.alloc j).alloc t):=(K.new w j).al _
theorem K.Rk w j t u:K w (((w.alloc j).alloc t).alloc u):=(K.kK w j t).al _
theorem K.azy w j t u y:K w ((((w.alloc j).alloc t).alloc u).alloc y):=(K.Rk w j t u).al _
theorem K.azz w y j t u A:K w (((((w.alloc y).alloc j).alloc t).alloc u).alloc A):=(K.azy w y j t u).al _
theorem ah.aS{w g t cs}(_:ah (w.alloc (.cells cs t)) g t cs):K w (w.alloc (.cells cs t)):=(K.rf w).al _
theorem ah.cells{t cs}(h:ah w g t cs):∀W,K w W->∀i,W.cell? ⟨g,i,none⟩=cs[i]?:=λ_ k i=>(h.ay k).cell i
structure aK(lo:Nat)(row:Option Nat)(w w':World):Prop where
 os:w'.os=w.os
 tape:w'.tape=w.tape
 output:w'.output=w.output
 size:w.heap.size<=w'.heap.size
 block:∀k,lo<=k->k<w.heap.size->some k≠row->w'.heap[k]?=w.heap[k]?
theorem aK.rf lo row w:aK lo row w w:=⟨rfl,rfl,rfl,aD _,λ_ _ _ _=>rfl⟩
theorem aK.tr(h:aK lo row a b)(k:aK lo row b c):aK lo row a c :=
 ⟨k.os.trans h.os,k.tape.trans h.tape,k.output.trans h.output,bo h.size k.size,λi t j u=>(k.block i t (bw j h.size) u).trans (h.block i t j u)⟩
theorem aK.aU(h:K w w') lo row:aK lo row w w':=⟨h.os,h.tape,h.output,h.size,λi _ j _=>h.block i j⟩
theorem aK.eP(h:w.grownBy w' row) lo:aK lo row w w':=⟨h.os,h.tape,h.output,h.size,λi _ j t=>h.block i j t⟩
theorem aK.more{j t}(h:aK lo row w w')(C:lo<=j)(y:∀k,j<=k->some k≠t->some k≠row):aK j t w w' :=
 ⟨h.os,h.tape,h.output,h.size,λi B u A=>h.block i af u (y i B A)⟩
theorem aK.k(h:aK 0 row w w')(j:K a w)(u:∀k,row=some k->a.heap.size<=k):K a w' :=
 j.trans ⟨h.os,h.tape,h.output,h.size,λi t=>h.block i (eE _) (bw t j.size) (by rintro rfl;have:=u i rfl;omega)⟩
theorem aK.app(h:w.grownBy w' row){j}(A:j=row∨j=some w.heap.size)(k:aK lo j w' w''):aK lo row w w'':=by
 refine⟨k.os.trans h.os,k.tape.trans h.tape,k.output.trans h.output,bo h.size k.size,λi u t y=>(k.block i u (bw t h.size) ?_).trans (h.block i t y)⟩
 grind
theorem Md{α:Type}(l:List α):((l.length:Int)==0)=l.isEmpty:=by
 cases l with
 | nil=>rfl
 | cons x l=>simp;omega
structure dV(α:Type) where
 size:Nat
 rel:α->List Value->World->Prop
 len:∀ {x cs w},rel x cs w->cs.length=size
 one:∀ {x cs w},rel x cs w->∀u∈cs,u.oneCell'=true
 st:∀ {x cs w w'},rel x cs w->K w w'->rel x cs w'
variable {α:Type} {S:dV α} {l:List α} {v:Value} {A:Option Addr}
def Each(S:dV α)(l:List α)(css:List (List Value))(w:World):Prop:=css.length=l.length/\∀i (h:i<l.length) (h':i<css.length),S.rel l[i] css[i] w
theorem Each.lens{css}(h:Each S l css w):∀cs∈css,cs.length=S.size:=by intro cs j;obtain⟨i,t,rfl⟩:=List.mem_iff_getElem.1 j;exact S.len (h.2 i VH t)
theorem Each.ones{css}(h:Each S l css w):∀u∈css.flatten,u.oneCell'=true:=by intro u j;obtain⟨cs,t,j⟩:=List.mem_flatten.1 j;obtain⟨i,y,rfl⟩:=List.mem_iff_getElem.1 t;exact S.one (h.2 i VH y) u j
theorem Each.st{css}(h:Each S l css w)(k:K w w'):Each S l css w':=⟨h.1,λi t j=>S.st (h.2 i t j) k⟩
theorem Each.Gj{css}(h:Each S l css w):css.flatten.length=l.length*S.size:=by rw[BV S.size css h.lens,h.1]
theorem Each.get{css}(h:Each S l css w) i(A:i<l.length):∃cs,css[i]?=some cs/\cs.length=S.size/\S.rel l[i] cs w/\∀j,j<S.size->css.flatten[i*S.size+j]?=cs[j]?:=by have t:i<css.length:=VH;have u:=h.2 i A t;refine⟨css[i],List.getElem?_eq_getElem t,S.len u,u,λj y=>?_⟩;rw[wX S.size css h.lens i j t y,List.getElem?_eq_getElem t];rfl
theorem Each.nil(S:dV α) w:Each S [] [] w:=⟨rfl,λi hi=>Lg⟩
theorem Each.snoc{css}(h:Each S l css w){x cs}(u:S.rel x cs w):Each S (l++[x]) (css++[cs]) w:=by
 refine⟨Ln,λi y t=>?_⟩
 have:=h.1
 by_cases j:i<l.length
 ·have:=h.2 i j af;grind
 grind
theorem Each.one{x cs}(j:S.rel x cs w):Each S [x] [cs] w:=by simpa using (Each.nil S w).snoc j
theorem Each.take{css}(h:Each S l css w) k:Each S (l.take k) (css.take k) w:=by refine⟨Ln,λi t j=>?_⟩;simp only[List.getElem_take];exact h.2 i aB aB
theorem Each.drop{css}(h:Each S l css w) k:Each S (l.drop k) (css.drop k) w:=by refine⟨Ln,λi t j=>?_⟩;simp only[List.getElem_drop];exact h.2 (k+i) aB aB
theorem Each.append{u css t}(h:Each S l css w)(k:Each S u t w):Each S (l++u) (css++t) w:=by
 refine⟨by simp[h.1,k.1],λi B A=>?_⟩;have y:=h.1;by_cases j:i<l.length
 ·rw[List.getElem_append_left j,List.getElem_append_left af];exact h.2 i j af
 ·rw[List.getElem_append_right af,List.getElem_append_right af];have:=k.2 (i-l.length) aB aB;simpa [y]using this
def zm(S:dV α)(l:List α)(A:Option Addr)(w:World):Prop:=∃css,Each S l css w/\Reads w w.heap.size S.size A l.length css.flatten
theorem XN(h:zm S l A w)(k:K w w'):zm S l A w':=by obtain⟨css,t,j⟩:=h;exact⟨css,t.st k,(j.below k (aD _)).more k.size⟩
theorem afu(S:dV α) A w:zm S [] A w:=⟨[],Each.nil _ _,Reads.nil _ _ _ _⟩
theorem IU(h:zm S l A w) i(B:i<l.length)(I:0<S.size):∃b t cs,A=some ⟨b,t,none⟩/\b<w.heap.size/\cs.length=S.size/\S.rel l[i] cs w/\∀j,j<S.size->w.cell? ⟨b,t+i*S.size+j,none⟩=cs[j]?:=by
 obtain⟨css,u,C⟩:=h
 obtain⟨cs,F,E,y,H⟩:=u.get i B
 have D:0<css.flatten.length:=aB
 obtain⟨b,t,rfl,hb,J⟩:=C.2 D
 refine⟨b,t,cs,rfl,hb,E,y,λj G=>?_⟩
 grind
def aq(S:dV α)(l:List α)(v:Value)(w:World):Prop:=∃A c,v=.slice A l.length c/\zm S l A w/\l.length<=c
theorem bj(h:aq S l v w)(k:K w w'):aq S l v w':=by obtain⟨A,c,j,u,t⟩:=h;exact⟨A,c,j,XN u k,t⟩
theorem ajC(h:aq S l v w):∀W,K w W->aq S l v W:=λ_ k=>bj h k
theorem gy(S:dV α) w:aq S [] (.slice none 0 0) w:=⟨none,0,rfl,afu _ _ _,aD _⟩
def AW(S:dV α):dV (List α) where
 size:=1
 rel l cs w:=∃v,cs=[v]/\aq S l v w
 len:=by rintro _ _ _⟨v,rfl,_⟩;rfl
 one:=by rintro _ _ _⟨v,rfl,A,c,rfl,_⟩ u j;simp at j;subst j;rfl
 st:=by rintro _ _ _ _⟨v,rfl,h⟩ k;exact⟨v,rfl,bj h k⟩
def aV(base lo:Nat)(e:TypeId)(S:dV α)(l:List α)(v:Value)(w:World):Prop :=
 ∃css,w.ownsRow base e S.size v l.length css.flatten/\css.length=l.length/\∀w',aK lo v.ownBlock w w'->Each S l css w'
theorem aV.nil base lo e(S:dV α) w:aV base lo e S [] (.slice none 0 0) w:=⟨[],jV _ _ _ _,rfl,λ_ _=>Each.nil _ _⟩
theorem aV.st{e}(h:aV base lo e S l v w)(k:K w w'):aV base lo e S l v w':=by obtain⟨css,j,A,t⟩:=h;exact⟨css,pZ j k,A,λy u=>t y ((aK.aU k lo _).tr u)⟩
theorem aV.up{e}(h:aV base lo e S l v w)(G:lo<=base)(u:aK lo none w w'):aV base lo e S l v w':=by obtain⟨css,j,B,F⟩:=h;refine⟨css,⟨j.1,j.2.imp id ?_⟩,B,λC D=>F C (aK.tr (u.more (aD _) (λ_ _ _=>aj)) D)⟩;rintro ⟨g,cap,cur,y,A,t,E⟩;exact⟨g,cap,cur,y,A,(u.block g af (Array.getElem?_eq_some_iff.1 t).1 aj).trans t,E⟩
theorem aV.low{e base'}(h:aV base' lo e S l v w)(hb:base<=base'):aV base lo e S l v w:=afv
theorem aV.slice{e}(h:aV base lo e S l v w):∃A c,v=.slice A l.length c/\zm S l A w/\l.length<=c/\(∀g,v.ownBlock=some g->base<=g/\g<w.heap.size):=by
 obtain⟨css,j,B,t⟩:=h;have y:=j;have u:=t w (aK.rf _ _ _);have hg:=λg hg=>j.lt g hg
 rcases j.2 with ⟨rfl,C⟩|⟨g,cap,cur,rfl,_,_,hn,_⟩
 ·grind [List.eq_nil_of_length_eq_zero,afu]
 ·exact⟨_,_,rfl,⟨css,u,Reads.yE y⟩,hn,hg⟩
theorem aV.blk{e}(h:aV base lo e S l v w):∀g,v.ownBlock=some g->base<=g/\g<w.heap.size:=by obtain⟨css,j,_,_⟩:=h;exact λg hg=>j.lt g hg
theorem aV.aq{e:TypeId}(h:aV base lo e S l v w):aq S l v w:=by
 obtain⟨A,c,j,u,t,_⟩:=h.slice
 grind [aq]
theorem aV.snoc{e css}(D:css.length=l.length)(t:∀w',aK lo v.ownBlock w w'->Each S l css w')
 {x} {cs} {v'} (B:w'.ownsRow base e S.size v' (l.length+1) (css.flatten++cs)) (hg:w.grownBy w' v.ownBlock) (A:v'.ownBlock=v.ownBlock∨v'.ownBlock=some w.heap.size)
 (y:∀w',aK lo v.ownBlock w w'->S.rel x cs w'):aV base lo e S (l++[x]) v' w':=by
 refine⟨css++[cs],aB,aB,λC u=>?_⟩
 have j:=aK.app hg A u
 exact (t _ j).snoc (y _ j)
end
def jY(x:cM):List UInt8:=(az x.1.size++dS x.1)++nO x.2.1 x.2.2.1 x.2.2.2
def jC(l:List cM):List UInt8:=az l.length++l.flatMap jY
def Cs(l:List cM):List UInt8:=if fN l then jC l else []
theorem VI{p l}(h:jF p l=true):∀x∈l,j8 x=true:=by
 induction l generalizing p with
 | nil=>simp
 | cons y l j =>
  grind [jF,j8]
theorem UT{x}(h:j8 x=true):x.1.size<=16/\x.2.2.2.size<=40:=by simp only[j8,sO,dz,decide_eq_true_eq]at h;exact⟨h.1.1.2,(Io h.2).2⟩
theorem Pn{l}(h:fN l=true):1<=l.length/\l.length<=16/\jF none l=true:=by
 grind [fN,jF]
theorem auM{x}(h:j8 x=true)(t:-9223372036854775808<=x.2.2.1)(j:x.2.2.1<=9223372036854775807):(jY x).length<=92:=by obtain⟨a,b⟩:=UT h;have:=cS x.1.size af;have:=cS (aZ x.2.1) (gH _);have:=cS (vG x.2.1 x.2.2.1) (Lc _ _ t j);have:=cS x.2.2.2.size af;simp[jY,nO];omega
theorem auN(l:List cM)(hk:∀x∈l,(jY x).length<=92):(l.flatMap jY).length<=92*l.length:=by
 induction l with
 | nil=>simp
 | cons y l j =>
  grind
theorem aeh l k(y:fN l=true)(t:∀x∈l,bR x.2.1/\bR x.2.2.1):(az l.length++(l.take k).flatMap jY).length<=2000:=by
 obtain⟨A,C,u⟩:=Pn y
 have:=cS l.length af
 have:=auN (l.take k) λx j=>auM (VI u x (nQ j)) (t x (nQ j)).2.1 (t x (nQ j)).2.2
 grind
theorem asG(l:List cM) k(h:k<l.length):az l.length++(l.take (k+1)).flatMap jY=az l.length++(l.take k).flatMap jY++(az l[k].1.size++dS l[k].1)++nO l[k].2.1 l[k].2.2.1 l[k].2.2.2:=by
 grind [gg,jY,dQ]
theorem Reads.ajU(w:World) s c x e n(hn:w.heap.size=n):Reads (w.alloc (.cells (bytesRow s c) e x)).drew (n+1) 1 (some ⟨n,0,none⟩) s.size (dN (dS s)):=by
 grind [Reads.drew,Reads.conv]
def lU(x:cM):Prop:=bR x.2.1/\bR x.2.2.1
theorem aya l:dS ⟨l.toArray⟩=l:=by rfl
theorem VJ s:(dS s).length=s.size:=by simp
theorem awz x(y:j8 x=true)(j:lU x) rest:s6 (jY x++rest) false=(x,rest,false):=by
 obtain⟨A,C⟩:=UT y;obtain⟨s,k,n,t⟩:=x;have u:iP k n t=true:=by grind [j8]
 have D:aM 16 (jY (s,k,n,t)++rest) false=(dS s,nO k n t++rest,false):=by
  have:=FA 16 (dS s) (by grind [VJ]) (by grind [VJ]) (nO k n t++rest)
  rw[VJ]at this
  simp only[jY]
  grind
 have B:=aeb k n t u j.2.1 j.2.2 rest;unfold s6;simp_all
theorem auO(l:List cM)(h:∀x∈l,j8 x=true/\lU x) rest:∀k,k<=l.length->fV k (l.flatMap jY++rest) false=(l.take k,(l.drop k).flatMap jY++rest,false):=by
 intro k
 induction k with
 | zero=>intro _;simp[fV]
 | succ k u => intro hk;have j:k<l.length:=af;have y:l.drop k=l[k] :: l.drop (k+1):=aj;have t:=h l[k] (bT j);show ((fV k (l.flatMap jY++rest) false).1++[(s6 (fV k (l.flatMap jY++rest) false).2.1 (fV k (l.flatMap jY++rest) false).2.2).1],(s6 (fV k (l.flatMap jY++rest) false).2.1 (fV k (l.flatMap jY++rest) false).2.2).2)=_;rw[u af];simp only;rw[y,vC,dQ,awz _ t.1 t.2,gg j]
theorem asH l(A:fN l=true)(y:∀x∈l,lU x) rest:aw (jC l++rest) false=(l.length,l.flatMap jY++rest,false)/\Gi (jC l++rest)=(l,rest,false):=by
 obtain⟨B,D,t⟩:=Pn A
 have u:aw (jC l++rest) false=(l.length,l.flatMap jY++rest,false):=by
  grind [jC,dQ,qR]
 refine⟨u,?_⟩
 have:=auO l (λx j=>⟨VI t x j,y x j⟩) rest l.length (aD _)
 unfold Gi
 grind
theorem auP l(j:fN l=true)(t:∀x∈l,lU x):sV (jC l)=some l:=by
 have h:=asH l j t []
 rw[List.append_nil]at h
 have:=(Pn j).2.1
 unfold sV
 grind
theorem auQ{l wr}(h:(s6 l wr).2.2=false):l=jY (s6 l wr).1++(s6 l wr).2.1/\wr=false:=by obtain⟨j,_,t,_⟩:=Vc (l:=(aM 16 l wr).2.1) (wr:=(aM 16 l wr).2.2) h;obtain⟨y,_,A⟩:=DR t;refine⟨?_,A⟩;unfold s6 jY;simp only;rw[aya];have u:(⟨(aM 16 l wr).1.toArray⟩:ByteArray).size=(aM 16 l wr).1.length:=VF;rw[u,dQ,<- j];exact y
theorem asI{k l wr}(h:(fV k l wr).2.2=false):l=(fV k l wr).1.flatMap jY++(fV k l wr).2.1/\wr=false:=by
 induction k with
 | zero=>exact⟨cC,h⟩
 | succ k j => obtain⟨e1,u⟩:=auQ (l:=(fV k l wr).2.1) (wr:=(fV k l wr).2.2) h;obtain⟨e2,t⟩:=j u;refine⟨?_,t⟩;show l=((fV k l wr).1++[(s6 (fV k l wr).2.1 (fV k l wr).2.2).1]).flatMap jY++(s6 (fV k l wr).2.1 (fV k l wr).2.2).2.1;exact afi
theorem adp{b y}(h:sV b=some y):b=jC y/\fN y=true/\∀x∈y,lU x:=by
 unfold sV at h;split at h
 ·rename_i C;injection h with h;simp only[dz,Bool.not_eq_true',List.isEmpty_iff,decide_eq_true_eq]at C;obtain⟨⟨⟨G,A⟩,B⟩,j⟩:=C;unfold Gi at A B j h;obtain⟨t,E⟩:=asI A;obtain⟨F,_⟩:=tI E;have u:=(Vd (aw b false).1 (aw b false).2.1 (aw b false).2.2).2;have hfit:=auD (aw b false).1 (aw b false).2.1 (aw b false).2.2;rw[h]at t u j hfit;rw[B,List.append_nil]at t;refine⟨?_,j,λx D=>(hfit x D).1⟩;unfold jC;rw[u,<- t];exact F
 ·cases h
theorem Ve{l}(h:fN l=true)(j:∀x∈l,lU x):(jC l).length<=2000:=by have:=aeh l l.length h j;rwa [nc]at this
structure aL where
 kind:Int
 br:Int
 life:Nat
 bY:Nat
 cl:Int
 sub:Nat
 f:List cX
 es:List (List cM)
 deriving DecidableEq
def dC:aL:=⟨0,0,0,0,0,0,[],[]⟩
def cE(x:aL):Prop:=bR x.kind/\bR x.br/\bR x.cl/\x.life<18446744073709551616/\x.bY<18446744073709551616/\x.sub<18446744073709551616/\(∀t∈x.f,iB t)/\∀e∈x.es,∀a∈e,lU a
def qX(b:Int):Bool:=decide (0<=b)&&decide (b<16)
def bH(x:aL):Bool :=
 qX x.br&&decide (0<=x.cl)&&decide (x.cl<32) &&
  (if x.kind=1 then decide (x.sub=0)&&x.f.isEmpty&&decide (x.es.length<=8)&&x.es.all fN
   else if x.kind=3 then x.f.isEmpty&&x.es.isEmpty
   else if x.kind=2 then x.es.isEmpty&&okF x.f else false)
def qY(x:aL):Int:=if bH x then 0 else 110
def ij(b:List UInt8):List UInt8:=az b.length++b
def lh(x:aL):List UInt8:=az (aZ x.kind)++(az (aZ x.br)++(az x.life++(az x.bY++(az (aZ x.cl)++az x.sub))))
def ei(x:aL):List UInt8 :=
 lh x++(if x.kind=1 then az x.es.length++x.es.flatMap (λe=>ij (jC e))else if x.kind=2 then ij (jt x.f)else [])
def lV(n:Int):Bg (List cM):=λl wr=>match sV (aM n l wr).1 with
 | none=>([],(aM n l wr).2.1,true)
 | some e=>(e,(aM n l wr).2)
def qu(n:Int):Bg (List cX):=λl wr=>match qV (aM n l wr).1 with
 | none=>([],(aM n l wr).2.1,true)
 | some e=>(e,(aM n l wr).2)
theorem KM n:Eh (λe=>ij (jC e)) (λe=>fN e=true/\(∀x∈e,lU x)/\((jC e).length:Int)<=n) (lV n) where
 fwd:=by rintro e⟨j,t,u⟩ rest;have C:=Ve j t;have hb:=FA n (jC e) af u rest;simp only[lV,ij];rw[hb];simp only[auP e j t]
 back:=by
  intro l wr h
  simp only[lV]at h⊢
  cases hd:sV (aM n l wr).1 with
  | none=>rw[hd]at h;cases h
  | some e => rw[hd]at h;obtain⟨A,_,B⟩:=DR h;have y:=(adp hd).1;refine⟨?_,B⟩;simp only[ij];rw[<- y];exact A
 len:=by intro l wr;have:=DU n l wr;simp only[lV];split <;> simpa using this
theorem asJ{l}(h:okF l=true)(j:∀x∈l,iB x)(t:(jt l).length<18446744073709551616) n(hn:((jt l).length:Int)<=n) rest:qu n (ij (jt l)++rest) false=(l,rest,false):=by have hb:=FA n (jt l) t hn rest;simp only[qu,ij];rw[hb];simp only[auG l h j]
theorem asK n l wr(h:(qu n l wr).2.2=false):l=ij (jt (qu n l wr).1)++(qu n l wr).2.1/\wr=false:=by
 simp only[qu]at h⊢
 cases hd:qV (aM n l wr).1 with
 | none=>rw[hd]at h;cases h
 | some e =>
  grind [DR,ado,ij]
def gK(l:List UInt8)(wr:Bool):(Nat×Nat×Nat×Nat×Nat×Nat)×List UInt8×Bool :=
 let j:=aw l wr
 let u:=aw j.2.1 j.2.2
 let t:=aw u.2.1 u.2.2
 let y:=aw t.2.1 t.2.2
 let A:=aw y.2.1 y.2.2
 let B:=aw A.2.1 A.2.2
 ((j.1,u.1,t.1,y.1,A.1,B.1),B.2)
theorem awD a b c d e f(t:a<18446744073709551616)(hb:b<18446744073709551616)(u:c<18446744073709551616)(j:d<18446744073709551616)(A:e<18446744073709551616)(y:f<18446744073709551616) rest :
 gK (az a++(az b++(az c++(az d++(az e++az f))))++rest) false=((a,b,c,d,e,f),rest,false):=by
 grind [gK,dQ,qR]
theorem auR l wr(h:(gK l wr).2.2=false) :
 l=az (gK l wr).1.1++(az (gK l wr).1.2.1++(az (gK l wr).1.2.2.1++(az (gK l wr).1.2.2.2.1++(az (gK l wr).1.2.2.2.2.1++az (gK l wr).1.2.2.2.2.2))))++(gK l wr).2.1/\wr=false:=by
 grind [gK,tI,dQ]
theorem ara{k n s}(t:-9223372036854775808<=n)(j:n<=9223372036854775807)(y:s.size<=40):(nO k n s).length<=67:=by have:=cS (aZ k) (gH _);have:=cS (vG k n) (Lc _ _ t j);have:=cS s.size af;simp[nO];omega
theorem auS{t}(h:gj t=true)(j:iB t):(jL t).length<=101:=by
 obtain⟨u,_,_,h8,hn⟩:=Fu h;have B:=cS t.1.size af;have y:=cS (aZ t.2.1) (gH _);have C:t.1.data.size<=16:=u;unfold jL;simp only[dq];split
 ·grind
 ·rename_i e;have A:(nO t.2.2.1 t.2.2.2.1 t.2.2.2.2).length<=67:=ara j.2.2.1 j.2.2.2 (Io (hn aB)).2;grind
def oK(a:Nat×Nat×Nat×Nat×Nat×Nat):aL:=⟨(min a.1 4:Nat),(min a.2.1 16:Nat),a.2.2.1,a.2.2.2.1,(min a.2.2.2.2.1 32:Nat),a.2.2.2.2.2,[],[]⟩
def qv(n:Int):Bg aL:=λl wr =>
 if min (gK l wr).1.1 4=1 then
  ({ oK (gK l wr).1 with es:=(dw (lV n) (min (aw (gK l wr).2.1 (gK l wr).2.2).1 9) (aw (gK l wr).2.1 (gK l wr).2.2).2.1 (aw (gK l wr).2.1 (gK l wr).2.2).2.2).1 },
   (dw (lV n) (min (aw (gK l wr).2.1 (gK l wr).2.2).1 9) (aw (gK l wr).2.1 (gK l wr).2.2).2.1 (aw (gK l wr).2.1 (gK l wr).2.2).2.2).2)
 else if min (gK l wr).1.1 4=2 then ({ oK (gK l wr).1 with f:=(qu n (gK l wr).2.1 (gK l wr).2.2).1 },(qu n (gK l wr).2.1 (gK l wr).2.2).2)
 else (oK (gK l wr).1,(gK l wr).2)
theorem DI{x}(h:bH x=true):(0<=x.br/\x.br<16)/\(0<=x.cl/\x.cl<32) /\
 ((x.kind=1/\x.sub=0/\x.f=[]/\x.es.length<=8/\∀e∈x.es,fN e=true)∨(x.kind=3/\x.f=[]/\x.es=[])∨(x.kind=2/\x.es=[]/\okF x.f=true)):=by
 simp only[bH,qX,dz,decide_eq_true_eq]at h
 obtain⟨⟨⟨⟨j,u⟩,y⟩,A⟩,t⟩:=h
 refine⟨⟨j,u⟩,⟨y,A⟩,?_⟩
 split at t
 all_goals grind
theorem tG k(t:0<=k)(j:k<100):aZ k=k.toNat:=by grind [aZ]
theorem auT n x(h:bH x=true)(M:cE x)(A:∀e∈x.es,((jC e).length:Int)<=n)(G:((jt x.f).length:Int)<=n)(J:(jt x.f).length<18446744073709551616) rest :
 qv n (ei x++rest) false=(x,rest,false):=by
 obtain⟨⟨y,F⟩,⟨u,I⟩,hk⟩:=DI h
 obtain⟨_,_,_,E,C,t,L,D⟩:=M
 obtain⟨kind,br,life,bY,cl,sub,f,es⟩:=x
 simp only at y F u I hk E C t L D A G J
 have:=tG br y af
 have:=tG cl u af
 have h6:∀R,gK (lh ⟨kind,br,life,bY,cl,sub,f,es⟩++R) false=((aZ kind,aZ br,life,bY,aZ cl,sub),R,false):=λR =>
  awD (aZ kind) (aZ br) life bY (aZ cl) sub (gH _) (gH _) E C (gH _) t R
 have:((min (aZ br) 16:Nat):Int)=br:=af
 have:((min (aZ cl) 32:Nat):Int)=cl:=af
 rcases hk with ⟨rfl,rfl,rfl,h8,H⟩|⟨rfl,rfl,rfl⟩|⟨rfl,rfl,U⟩
 ·have e:ei ⟨1,br,life,bY,cl,0,[],es⟩++rest=lh ⟨1,br,life,bY,cl,0,[],es⟩++(az es.length++(es.flatMap (λe=>ij (jC e))++rest)):=by simp[ei,dQ]
  have:=afg (KM n) es (λe j=>⟨H e j,D e j,A e j⟩) rest es.length (aD _);have B:aZ 1=1:=rfl;unfold qv;grind [qR,oK]
 ·have e:ei ⟨3,br,life,bY,cl,sub,[],[]⟩++rest=lh ⟨3,br,life,bY,cl,sub,[],[]⟩++rest:=by simp[ei]
  have B:aZ 3=3:=rfl;unfold qv;grind [oK]
 ·have e:ei ⟨2,br,life,bY,cl,sub,f,[]⟩++rest=lh ⟨2,br,life,bY,cl,sub,f,[]⟩++(ij (jt f)++rest):=by grind [ei]
  have B:aZ 2=2:=rfl;unfold qv;grind [asJ,oK]
theorem VK{x}(h:x.kind=1):ei x=lh x++(az x.es.length++x.es.flatMap λe=>ij (jC e)):=by grind [ei]
theorem VL{x}(h:x.kind=2):ei x=lh x++ij (jt x.f):=by grind [ei,lh,ij,jt]
theorem afw{x}(j:¬x.kind=1)(t:¬x.kind=2):ei x=lh x:=by grind [ei,lh]
theorem asL n l wr(h:(qv n l wr).2.2=false)(ok:bH (qv n l wr).1=true):l=ei (qv n l wr).1++(qv n l wr).2.1/\wr=false:=by
 have h6:=auR l wr;unfold qv at h ok⊢;generalize gK l wr=r at *;obtain⟨⟨a,b,c,d,e,f⟩,t,j⟩:=r;simp only at h ok h6⊢;have D:∀x:aL,x.kind=(min a 4:Nat)->x.br=(min b 16:Nat)->x.cl=(min e 32:Nat)->x.life=c->x.bY=d->x.sub=f->bH x=true ->
  lh x=az a++(az b++(az c++(az d++(az e++az f)))):=by
  intro x R W X N G h6 F
  obtain⟨⟨T,S⟩,⟨Q,V⟩,hk⟩:=DI F
  have J:aZ x.kind=a:=by
   grind [tG]
  have M:aZ x.br=b:=by grind [tG]
  have L:aZ x.cl=e:=by grind [tG]
  unfold lh
  rw[J,M,L,N,G,h6]
 split at h
 ·rename_i E;rw[if_pos E]at ok⊢;have h8:(dw (lV n) (min (aw t j).1 9) (aw t j).2.1 (aw t j).2.2).1.length=min (aw t j).1 9:=(Ll (KM n) _ _ _).2;obtain⟨A,B⟩:=aed (KM n) h;obtain⟨O,I⟩:=tI B;obtain⟨u,w⟩:=h6 I;refine⟨?_,w⟩;have y:=D _ rfl rfl rfl rfl rfl rfl ok;obtain⟨-,-,hk⟩:=DI ok;have U:(dw (lV n) (min (aw t j).1 9) (aw t j).2.1 (aw t j).2.2).1.length<=8:=by
   rcases hk with hk|hk|hk
   ·exact hk.2.2.2.1
   ·have:=hk.1;simp only[oK]at this;omega
   ·have:=hk.1;simp only[oK]at this;omega
  have hm:min (aw t j).1 9=(aw t j).1:=af;rw[VK PX,y];simp only;rw[h8,hm];rw[hm]at A;generalize az a++(az b++(az c++(az d++(az e++az f))))=H at u⊢;rw[dQ H,dQ (az (aw t j).1),<- A,<- O];exact u
 ·rename_i E;rw[if_neg E]at ok⊢;split at h
  ·rename_i C;rw[if_pos C]at ok⊢;obtain⟨A,B⟩:=asK n t j h;obtain⟨u,w⟩:=h6 B;refine⟨?_,w⟩;have y:=D _ rfl rfl rfl rfl rfl rfl ok;rw[VL PX,y];simp only;generalize az a++(az b++(az c++(az d++(az e++az f))))=H at u⊢;rw[dQ H,<- A];exact u
  ·rename_i C;rw[if_neg C]at ok⊢;obtain⟨u,w⟩:=h6 h;refine⟨?_,w⟩;have y:=D _ rfl rfl rfl rfl rfl rfl ok;rw[afw PX PX,y];exact u
def iA(b:List UInt8):Option aL:=if !(qv b.length b false).2.2&&(qv b.length b false).2.1.isEmpty&&bH (qv b.length b false).1 then some (qv b.length b false).1 else none
def lP(b:List UInt8):aL:=(iA b).getD dC
def yF(b:List UInt8):Int:=if (iA b).isSome then 0 else 110
theorem UC{b x}(h:iA b=some x):b=ei x/\bH x=true:=by
 unfold iA at h;split at h
 ·rename_i t;injection h with h;simp only[dz,Bool.not_eq_true',List.isEmpty_iff]at t;obtain⟨⟨y,u⟩,j⟩:=t;have hb:=(asL _ b false y j).1;rw[u,List.append_nil,h]at hb;rw[h]at j;exact⟨hb,j⟩
 ·cases h
theorem auU x(hk:x.kind=1) e(j:e∈x.es):(jC e).length<=(ei x).length:=by
 have:(ij (jC e)).length<=(x.es.flatMap λe=>ij (jC e)).length:=by
  obtain⟨s,t,y⟩:=List.append_of_mem j
  grind
 unfold ei
 grind [jC,ei,ij]
theorem adq x(h:bH x=true)(j:cE x):iA (ei x)=some x:=by
 obtain⟨-,-,hk⟩:=DI h
 have u:(jt x.f).length<18446744073709551616/\((jt x.f).length:Int)<=((ei x).length:Int):=by
  have:1<=(az (aZ x.kind)).length:=by simp[az]
  have hp:1<=(lh x).length:=by grind [lh]
  rcases hk with ⟨_,_,C,_⟩|⟨_,C,_⟩|⟨hk,_,A⟩
  ·grind [bH,cE,iA,ei,jt,az,fO,be]
  ·grind [bH,cE,iA,ei,jt,az,fO,be]
  ·refine⟨?_,?_⟩
   ·have h8:=DK A;have:=j.2.2.2.2.2.2.1;have:=cS x.f.length af;have:(x.f.flatMap jL).length<=101*x.f.length:=by
     have:∀l:List cX,(∀t∈l,gj t=true/\iB t)->(l.flatMap jL).length<=101*l.length:=afx
     grind
    unfold jt;rw[dq];omega
   ·grind [bH,cE,iA,ei,ij]
 have B:∀e∈x.es,((jC e).length:Int)<=((ei x).length:Int):=by
  intro e H;rcases hk with ⟨hk,_⟩|⟨_,_,hn⟩|⟨_,hn,_⟩
  ·simp_all [auU]
  all_goals grind
 have D:=auT (ei x).length x h j B u.2 u.1 []
 rw[List.append_nil]at D
 unfold iA
 grind
theorem adr{l}(h:okF l=true)(j:∀x∈l,iB x):(jt l).length<=900:=by
 have h8:=DK h;have:=cS l.length af;have u:∀l:List cX,(∀t∈l,gj t=true/\iB t)->(l.flatMap jL).length<=101*l.length:=afx;have h6:=u l λt ht=>⟨h8.2 t ht,j t ht⟩
 unfold jt;rw[dq];omega
theorem acL(es:List (List cM))(h:∀e∈es,fN e=true/\∀a∈e,lU a):(es.flatMap λe=>ij (jC e)).length<=2009*es.length:=by
 induction es with
 | nil=>simp
 | cons y l j =>
  have:=j λt B=>h t aB
  obtain⟨C,u⟩:=h y aj
  grind [Ve,cS,jC,ij,az,dq,eQ]
theorem KW{x}(h:bH x=true)(y:cE x):(ei x).length<=20000:=by
 obtain⟨_,_,hk⟩:=DI h;obtain⟨_,_,_,t,u,j,F,E⟩:=y;have:=cS (aZ x.kind) (gH _);have:=cS (aZ x.br) (gH _);have:=cS x.life t;have:=cS x.bY u;have:=cS (aZ x.cl) (gH _);have:=cS x.sub j;have:(lh x).length<=54:=by grind [lh]
 rcases hk with ⟨hk,_,_,h8,D⟩|⟨hk,_,_⟩|⟨hk,_,A⟩
 ·grind [acL,cS,VK,dq]
 ·grind [bH,cE,ei]
 ·grind [adr,cS,jt,VL,dq,ij]
structure Rec where
 kind:Int
 n:Nat
 e:aL
 br:Int
 life:Nat
 bY:Nat
 deriving DecidableEq
def I6:Rec:=⟨0,0,dC,0,0,0⟩
def jA(x:Rec):Prop:=bR x.kind/\x.n<18446744073709551616/\cE x.e/\bR x.br/\x.life<18446744073709551616/\x.bY<18446744073709551616
def xq(x:Rec):Bool:=decide (x.br=0)&&decide (x.life=0)&&decide (x.bY=0)
def dL(x:Rec):Bool :=
 if x.kind=1 then decide (x.e=dC)&&xq x
 else if x.kind=2 then bH x.e&&xq x
 else if x.kind=3 then decide (x.n=0)&&bH x.e&&xq x
 else if x.kind=4∨x.kind=5 then qX x.br&&decide (x.n=0)&&decide (x.e=dC)else false
def bJ(x:Rec):List UInt8 :=
 az (aZ x.kind)++(az x.n++(if x.kind=2∨x.kind=3 then ij (ei x.e)else if x.kind=4∨x.kind=5 then az (aZ x.br)++(az x.life++az x.bY)else []))
theorem BW{x}(h:dL x=true):(x.kind=1/\x.e=dC/\x.br=0/\x.life=0/\x.bY=0)∨((x.kind=2∨x.kind=3/\x.n=0)/\bH x.e=true/\x.br=0/\x.life=0/\x.bY=0) ∨
 ((x.kind=4∨x.kind=5)/\(0<=x.br/\x.br<16)/\x.n=0/\x.e=dC):=by
 unfold dL xq qX at h
 split at h
 ·grind
 ·split at h
  ·grind
  ·split at h;all_goals grind
def ng(m:Int):Bg Rec:=λl wr =>
 let a:=aw l wr
 let b:=aw a.2.1 a.2.2
 let k:=min a.1 6
 if k=2∨k=3 then
  match iA (aM m b.2.1 b.2.2).1 with
  | none=>(I6,(aM m b.2.1 b.2.2).2.1,true)
  | some e=>(⟨(k:Nat),b.1,e,0,0,0⟩,(aM m b.2.1 b.2.2).2)
 else if k=4∨k=5 then
  let c:=aw b.2.1 b.2.2
  let d:=aw c.2.1 c.2.2
  let e:=aw d.2.1 d.2.2
  (⟨(k:Nat),b.1,dC,(min c.1 16:Nat),d.1,e.1⟩,e.2)
 else (⟨(k:Nat),b.1,dC,0,0,0⟩,b.2)
theorem ads m x(h:dL x=true)(G:jA x)(hm:((ei x.e).length:Int)<=m)(D:(ei x.e).length<18446744073709551616) rest:ng m (bJ x++rest) false=(x,rest,false):=by
 obtain⟨kind,n,e,br,life,bY⟩:=x;obtain⟨-,hn,B,-,C,A⟩:=G;simp only at hn B C A hm D;rcases BW h with ⟨hk,t,hb,j,u⟩|⟨hk,t,hb,j,u⟩|⟨hk,hb,j,t⟩
 ·simp only at hk t hb j u;subst hk t hb j u;have y:bJ ⟨1,n,dC,0,0,0⟩++rest=az 1++(az n++rest):=by
   grind [bJ,aZ,dQ]
  simp only[ng];rw[y,qR 1 ax];simp only[qR,hn];simp
 ·simp only at hk t hb j u;subst hb j u;have:kind=2∨kind=3:=af;have F:=tG kind af af;have y:bJ ⟨kind,n,e,0,0,0⟩++rest=az (aZ kind)++(az n++(az (ei e).length++ei e++rest)):=by
   grind [bJ,ij,dQ]
  have E:=FA m (ei e) D hm rest;simp only[ng];rw[y,qR _ (gH _)];simp only[qR,hn];rw[if_pos af,E];simp only[adq e t B];grind
 ·simp only at hk hb j t;subst j t;have F:=tG kind af af;have:=tG br hb.1 af;have y:bJ ⟨kind,0,dC,br,life,bY⟩++rest=az (aZ kind)++(az 0++(az (aZ br)++(az life++(az bY++rest)))):=by
   grind [bJ,dQ]
  simp only[ng];rw[y,qR _ (gH _)];simp only[qR,C,A,gH,show (0:Nat)<18446744073709551616 by decide];grind
theorem arb m l wr(h:(ng m l wr).2.2=false)(ok:dL (ng m l wr).1=true):l=bJ (ng m l wr).1++(ng m l wr).2.1/\wr=false:=by
 have B:=@tI l wr;unfold ng at h ok⊢;simp only at h ok⊢;generalize aw l wr=a at *;obtain⟨a,u,j⟩:=a;simp only at h ok B⊢;have hb:=@tI u j;generalize aw u j=b at *;obtain⟨b,y,t⟩:=b;simp only at h ok hb⊢;split at h
 ·rename_i hk;rw[if_pos hk]at ok⊢;have A:=@DR m y t;generalize aM m y t=r at *;obtain⟨bs,C,D⟩:=r;simp only at h ok A⊢;cases hd:iA bs with
  | none=>rw[hd]at h;cases h
  | some e =>
   grind [UC,aZ,tG,bJ,ij,dQ,az]
 ·grind [tI,aw,BW,aZ,tG,bJ,dQ]
def mZ(b:List UInt8):Option Rec:=if !(ng b.length b false).2.2&&(ng b.length b false).2.1.isEmpty&&dL (ng b.length b false).1 then some (ng b.length b false).1 else none
def tM(b:List UInt8):Rec:=(mZ b).getD I6
def tN(b:List UInt8):Int:=if (mZ b).isSome then 0 else 110
theorem apU{b x}(h:mZ b=some x):b=bJ x/\dL x=true:=by
 unfold mZ at h;split at h
 ·rename_i j;injection h with h;simp only[dz,Bool.not_eq_true',List.isEmpty_iff]at j;obtain⟨⟨u,t⟩,y⟩:=j;grind [arb]
 ·cases h
theorem afy:(ei dC).length=6:=by simp[ei,lh,dC,az,aZ,fO,be]
theorem arc x(h:dL x=true)(y:jA x):mZ (bJ x)=some x:=by
 have A:(ei x.e).length<18446744073709551616/\((ei x.e).length:Int)<=30000/\((x.kind=2∨x.kind=3)->((ei x.e).length:Int)<=((bJ x).length:Int)):=by
  have C:(x.kind=2∨x.kind=3)->((ei x.e).length:Int)<=((bJ x).length:Int):=by
   grind [dL,jA,mZ,bJ,ij]
  rcases BW h with ⟨_,j,_⟩|⟨_,j,_⟩|⟨_,_,_,j⟩
  ·simp_all [afy]
  ·have:=KW j y.2.2.1;exact⟨af,af,C⟩
  ·simp_all [afy]
 have u:ng (bJ x).length (bJ x++[]) false=(x,[],false):=by
  by_cases hk:x.kind=2∨x.kind=3
  ·grind [ads]
  ·have B:=ads 30000 x h y A.2.1 A.1 [];rw[<- B];have hn:(aw (bJ x++[]) false).1=aZ x.kind:=by unfold bJ;rw[dQ,qR _ (gH _)]
   have t:¬(min (aw (bJ x++[]) false).1 6=2∨min (aw (bJ x++[]) false).1 6=3):=by
    rw[hn];rcases BW h with ⟨g,_⟩|⟨g,_⟩|⟨g,_⟩
    ·rw[tG _ af af];omega
    ·omega
    ·rw[tG _ af af];omega
   unfold ng;simp only;rw[if_neg t,if_neg t]
 rw[List.append_nil]at u;unfold mZ;rw[u];simp[h]
abbrev aT:=Int×Nat×Nat
abbrev cA(a:aT):Value:=.agg #[.int .i64 a.1,.int .u64 (a.2.1:Int),.int .u64 (a.2.2:Int)]
section
open Go Go.RowKit Go.ChangeShapes Go.WideShapes Go.ChangeAt
def cI:dV (List cM) where
 size:=1
 rel l cs w:=∃v,cs=[v]/\iy l v w
 len:=by rintro _ _ _⟨v,rfl,_⟩;rfl
 one:=by rintro _ _ _⟨v,rfl,A,c,rfl,_⟩ u j;simp at j;subst j;rfl
 st:=by rintro _ _ _ _⟨v,rfl,h⟩ k;exact⟨v,rfl,mY _ _ _ _ h k⟩
abbrev fG(a:aT):List Value:=[.int .i64 a.1,.int .u64 (a.2.1:Int),.int .u64 (a.2.2:Int)]
def dJ(a:aT):Prop:=bR a.1/\a.2.1<18446744073709551616/\a.2.2<18446744073709551616
def bZ:dV aT where
 size:=3
 rel a cs _:=cs=fG a
 len:=by rintro _ _ _ rfl;rfl
 one:=by rintro _ _ _ rfl u j;simp at j;rcases j with rfl|rfl|rfl <;> rfl
 st:=by rintro _ _ _ _ h _;exact h
abbrev Yb(x:aL)(vf ve:Value):List Value:=[.int .i64 x.kind,.int .i64 x.br,.int .u64 (x.life:Int),.int .u64 (x.bY:Int),.int .i64 x.cl,.int .u64 (x.sub:Int),vf,ve]
abbrev aE(x:aL)(vf ve:Value):Array Value:=#[.int .i64 x.kind,.int .i64 x.br,.int .u64 (x.life:Int),.int .u64 (x.bY:Int),.int .i64 x.cl,.int .u64 (x.sub:Int),vf,ve]
theorem b5{l v w}(h:eI l v w):∃A c,v=.slice A l.length c:=by
 grind [eI]
theorem wY{l v w}(h:iy l v w):∃A c,v=.slice A l.length c:=by
 grind [iy]
theorem av{α S}{l:List α}{v w}(h:aq S l v w):∃A c,v=.slice A l.length c:=by
 grind [aq]
def aW:dV aL where
 size:=8
 rel x cs w:=∃vf j,cs=Yb x vf j/\eI x.f vf w/\aq cI x.es j w
 len:=by rintro _ _ _⟨vf,j,rfl,_⟩;rfl
 one:=by rintro x _ _⟨vf,j,rfl,⟨A,c,rfl,_⟩,⟨D,d,rfl,_⟩⟩ u hu;exact afz
 st:=by rintro _ _ _ _⟨vf,j,rfl,t,y⟩ k;exact⟨vf,j,rfl,eu _ _ _ _ t k,bj y k⟩
def dx(x:aL)(v:Value)(w:World):Prop:=∃vf j,v=.agg (aE x vf j)/\eI x.f vf w/\aq cI x.es j w
theorem LR{x v w w'}(h:dx x v w)(k:K w w'):dx x v w':=afA
theorem ayb{x v w}(h:dx x v w):∀W,K w W->dx x v W:=λ_ k=>LR h k
theorem auV w:dx dC (.agg #[.int .i64 0,.int .i64 0,.int .u64 0,.int .u64 0,.int .i64 0,.int .u64 0,.slice none 0 0,.slice none 0 0]) w :=
 ⟨_,_,rfl,⟨none,0,rfl,Reads.nil _ _ _ _⟩,gy _ _⟩
abbrev eY(x:Rec)(vf ve:Value):Array Value:=#[.int .i64 x.kind,.int .u64 (x.n:Int),.int .i64 x.e.kind,.int .i64 x.e.br,.int .u64 (x.e.life:Int),.int .u64 (x.e.bY:Int),.int .i64 x.e.cl,.int .u64 (x.e.sub:Int),vf,ve,.int .i64 x.br,.int .u64 (x.life:Int),.int .u64 (x.bY:Int)]
def pQ(x:Rec)(v:Value)(w:World):Prop:=∃vf j,v=.agg (eY x vf j)/\eI x.e.f vf w/\aq cI x.e.es j w
theorem QX{x v w w'}(h:pQ x v w)(k:K w w'):pQ x v w':=afA
theorem ayc{x v w}(h:pQ x v w):∀W,K w W->pQ x v W:=λ_ k=>QX h k
def vJ:dV Rec where
 size:=13
 rel x cs w:=∃vf j,cs=(eY x vf j).toList/\eI x.e.f vf w/\aq cI x.e.es j w
 len:=by rintro _ _ _⟨vf,j,rfl,_⟩;rfl
 one:=by rintro x _ _⟨vf,j,rfl,⟨A,c,rfl,_⟩,⟨D,d,rfl,_⟩⟩ u t;simp at t;rcases t with rfl|rfl|rfl|rfl|rfl|rfl|rfl|rfl|rfl|rfl|rfl|rfl|rfl <;> rfl
 st:=by rintro _ _ _ _⟨vf,j,rfl,y,B⟩ k;exact⟨vf,j,rfl,eu _ _ _ _ y k,bj B k⟩
section
variable {H:Type} {enc:TypeId×Value->H} {w:World} {base:Nat} {r:Reach} {b0:Nat} {spare:Nat->Bool} {held:Bool} {v:Value} {d:DataW H} {p:List MemPlace} {α:Type}
theorem T2{T E}(Q:prog.underlying T=some (.slice E)) C(hC:prog.cellsOf E=C)(t:List Value->Prop)
 (hE:∀(B:Nat) (cs:List Value) (x:DataW H×List MemPlace),cs.length=C->DataW.trod enc prog w base spare held B E cs=some x->t cs)
 {B} {cs} {x} (R:DataW.trod enc prog w base spare held B T cs=some x) :
 ∃(A:Option Addr) (n c:Nat) (css:List (List Value)),cs=[.slice A n c]/\css.length=n/\n<=c/\c<=maxLen/\(∀cs∈css,cs.length=C/\t cs)/\(0<C->Reads w w.heap.size C A n css.flatten):=by
 rcases Go.Deep.open_slice Q R with ⟨hcs,_⟩|⟨a,len,cap,m,n,D,W,hcs,hb,S,hm,X,hx,hi⟩
 ·exact⟨none,0,0,[],hcs,rfl,aj,aj,aj,λ_=>Reads.nil _ _ _ _⟩
 ·have Y:len<=m:=aB;have hex:∀i,i<len->∃cs,cs.length=C/\t cs/\∀j,j<C->w.cell? (a.add (i*C+j))=cs[j]?:=aeY;have key:∀k,k<=len->∃css:List (List Value),css.length=k/\(∀cs∈css,cs.length=C/\t cs)/\∀i j,i<k->j<C->w.cell? (a.add (i*C+j))=(css[i]?.getD [])[j]?:=aeZ;obtain⟨css,h1,h2,h3⟩:=key len (aD _);refine⟨some a,len,cap,css,hcs,h1,S,hm,h2,λhC0=>?_⟩;have G:css.flatten.length=len*C:=ae0;have hfg:∀i j,i<len->j<C->css.flatten[i*C+j]?=(css[i]?.getD [])[j]?:=λi j V hj=>wX C css (λcs hcs=>(h2 cs hcs).1) i j af hj
  refine⟨G,λy=>?_⟩;rw[G]at y;have U:=Nat.pos_of_mul_pos_right y;have F:∀q,q<len*C->w.cell? (a.add q)=css.flatten[q]?:=ae1;have zj:=F 0 y;have O:∃u,css.flatten[0]?=some u:=⟨css.flatten[0]'af,List.getElem?_eq_getElem af⟩;obtain⟨u,J⟩:=O;rw[J]at zj;obtain⟨b,N,M⟩:=a;have L:M=none:=by simpa [Addr.add]using World.cell?_spot zj
  subst L;refine⟨b,N,rfl,?_,λj u I=>?_⟩
  ·exact ae2
  ·have hj:j<len*C:=by have:=(List.getElem?_eq_some_iff.1 I).1;omega
   have:=F j hj;rw[Addr.add_lit]at this;rw[this,I]
theorem asM{T E}(Q:prog.underlying T=some (.slice E)) S(j:α->Prop)(L:prog.cellsOf E=S.size)(F:0<S.size)
 (G:∀(u:Nat) (cs:List Value) (x:DataW H×List MemPlace),cs.length=S.size->DataW.trod enc prog w base spare held u E cs=some x->∃y,S.rel y cs w/\j y)
 {u} {cs} {x} (R:DataW.trod enc prog w base spare held u T cs=some x):∃v l,cs=[v]/\aq S l v w/\∀y∈l,j y:=by
 obtain⟨A,n,c,css,rfl,C,I,_,M,D⟩:=T2 Q S.size L (λcs=>∃y,S.rel y cs w/\j y) G R
 have key:∀css:List (List Value),(∀cs∈css,∃y,S.rel y cs w/\j y)->∃l,Each S l css w/\∀y∈l,j y:=by
  intro css
  induction css with
  | nil=>intro _;exact⟨[],Each.nil _ _,aj⟩
  | cons cs css N =>
   intro h
   obtain⟨y,J,U⟩:=h cs aj
   obtain⟨l,t,B⟩:=N λc V=>h c aB
   refine⟨[y]++l,(Each.one J).append t,?_⟩
   grind
 obtain⟨l,t,B⟩:=key css λcs O=>(M cs O).2
 have hn:l.length=n:=by rw[<- C];exact t.1.symm
 subst hn
 exact⟨_,l,rfl,⟨A,c,rfl,⟨css,t,D F⟩,I⟩,B⟩
theorem auW{C cs x}(t:DataW.trod enc prog w base spare held C 51 cs=some x):∃l,cI.rel l cs w/\∀a∈l,lU a:=by
 obtain⟨A,n,c,css,rfl,j,G,F,E,B⟩:=T2 underlying51 4 cC (λcs=>∃y:cM,cs=kJ y/\bR y.2.1/\bR y.2.2.1) (λ_ _ _ _ D=>asu D) t;obtain⟨l,h6,h7,h8⟩:=OH kJ (λy:cM=>bR y.2.1/\bR y.2.2.1) css λcs u=>(E cs u).2
 have h9:=B ax;subst j;rw[<- h6]at h9⊢;refine⟨l,⟨_,rfl,A,c,rfl,?_⟩,h8⟩;rw[h7]at h9;rwa [List.flatMap_def]
theorem auX{C cs x}(t:DataW.trod enc prog w base spare held C 53 cs=some x):∃v l,cs=[v]/\eI l v w/\∀a∈l,iB a:=by
 obtain⟨A,n,c,css,rfl,j,G,F,E,B⟩:=T2 underlying53 5 cC (λcs=>∃y:cX,cs=fq y/\iB y) (λ_ _ _ _ D=>asA D) t;obtain⟨l,h6,h7,h8⟩:=OH fq iB css λcs u=>(E cs u).2
 have h9:=B ax;subst j;rw[<- h6]at h9⊢;refine⟨_,l,rfl,⟨A,c,rfl,?_⟩,h8⟩;rw[h7]at h9;rwa [List.flatMap_def]
theorem Po{t cs x}(y:DataW.trod enc prog w base spare held t 3 cs=some x):∃n,cs=[.int .i64 n]/\bR n:=by obtain⟨a,u,_,j⟩:=DataW.trod_int underlying3 y;have:=bounds_i64 j;exact⟨a,u,fk⟩
end
end
def oI:List Value->Nat->List Value->List Value
 | xs,_,[]=>xs
 | xs,q,u :: us=>oI (xs.set q u) (q+1) us
def dY:World->Nat->Nat->List Value->World
 | w,_,_,[]=>w
 | w,g,q,u :: us=>dY (w.setCell ⟨g,q,none⟩ u) g (q+1) us
theorem UD:∀(us xs:List Value) (q:Nat),q+us.length=xs.length->oI xs q us=xs.take q++us
 | [],xs,q,h=>by simp only[oI,List.append_nil];rw[gI (by simp at h;omega)]
 | u :: us,xs,q,h=>by
  simp only[eQ]at h;simp only[oI];rw[UD us (xs.set q u) (q+1) (by rw[List.length_set];omega),List.take_add_one];have:(xs.set q u)[q]?=some u:=by rw[List.getElem?_set_self (by omega)]
  rw[this,List.take_set_of_le (aD _)];simp
theorem aei{g e}:∀(us:List Value) (cs:Array Value) (q:Nat) (w:World),ah w g e cs->ah (dY w g q us) g e (oI cs.toList q us).toArray
 | [],cs,q,w,h=>by simpa [dY,oI]using h
 | u :: us,cs,q,w,h=>by have:=aei us (cs.setIfInBounds q u) (q+1) _ (h.aP q u);simpa [dY,oI,Array.toList_setIfInBounds]using this
theorem FO{w g e cs us}(h:ah w g e cs)(j:us.length=cs.size):ah (dY w g 0 us) g e us.toArray:=by have:=aei us cs 0 w h;rwa [UD us cs.toList 0 aB,Q8,aN]at this
theorem aV.floor{α S}{l:List α}{v w base lo j e}(h:aV base lo e S l v w)(B:j<=lo):aV base j e S l v w:=by obtain⟨css,t,y,A⟩:=h;exact⟨css,t,y,λw' u=>A w' (u.more B (λ_ _ h=>h))⟩
theorem fQ.up{w w' B v l}(h:fQ w B v l)(u:aK B none w w'):fQ w' B v l:=by refine⟨h.1,h.2.imp id ?_⟩;exact VM
theorem Vf(l:List cM):∀u∈l.flatMap kJ,u.oneCell'=true:=by
 intro u j
 obtain⟨x,_,t⟩:=List.mem_flatMap.1 j
 grind [aec]
theorem Ij(l:List cX):∀u∈l.flatMap fq,u.oneCell'=true:=by intro u t;obtain⟨x,_,j⟩:=List.mem_flatMap.1 t;simp at j;rcases j with rfl|rfl|rfl|rfl|rfl <;> rfl
theorem ed{α S}{l:List α}{A w}(h:zm S l A w) i(B:i<l.length)(u:0<S.size) :
 ∃b t cs,A=some ⟨b,t,none⟩/\cs.length=S.size/\(∀W,K w W->S.rel l[i] cs W)/\(∀W,K w W->W.cell? ⟨b,t+i*S.size,none⟩=cs[0]?)/\∀W,K w W->∀j,j<S.size->W.cell? ⟨b,t+i*S.size+j,none⟩=cs[j]?:=by
 obtain⟨b,t,cs,e,hb,E,y,D⟩:=IU h i B u
 have key:∀W,K w W->∀j,j<S.size->W.cell? ⟨b,t+i*S.size+j,none⟩=cs[j]?:=λW k j C=>(k.cell (p:=⟨b,t+i*S.size+j,none⟩) hb).trans (D j C)
 exact⟨b,t,cs,e,E,λW k=>S.st y k,λW k=>key W k 0 u,key⟩
theorem VN{w:World}{base g n cap q e size xs}(h:w.ownsRow base e size (.slice (some ⟨g,0,none⟩) n cap) n xs)(_:q<xs.length) u :
 (w.setCell ⟨g,q,none⟩ u).ownsRow base e size (.slice (some ⟨g,0,none⟩) n cap) n (xs.set q u):=by
 refine⟨by simpa using h.1,.inr ?_⟩
 rcases h.2 with ⟨y,_⟩|⟨G,E,cur,t,C,j,B,A,F,D⟩
 ·cases y
 ·injection t with e1 _ e3;injection e1 with e1;injection e1 with e1;subst e1 e3;refine⟨g,cap,cur.setIfInBounds q u,rfl,C,(show ah w g e cur from j).aP q u,B,A,aB,?_⟩;rw[Array.toList_setIfInBounds,<- D,List.take_set]
theorem Fv{w:World}{base g n cap e size xs}(h:w.ownsRow base e size (.slice (some ⟨g,0,none⟩) n cap) n xs):(∀q,q<xs.length->w.cell? ⟨g,q,none⟩=xs[q]?)/\∀q,w.frozen? ⟨g,q,none⟩=false:=by
 rcases h.2 with ⟨u,_⟩|⟨C,A,cur,t,F,j,E,D,B,y⟩
 ·cases u
 ·injection t with e1 _ e3;injection e1 with e1;injection e1 with e1;subst e1 e3;refine⟨λq G=>?_,λq=>(show ah w g e cur from j).frozen q⟩;rw[(show ah w g e cur from j).cell q,<- y];grind
theorem OX{α:Type} n u:∀(css:List (List α)),(∀cs∈css,cs.length=n)->∀(k j:Nat) (hk:k<css.length),j<n->css.flatten.set (k*n+j) u=(css.set k ((css[k]).set j u)).flatten
 | [],_,k,j,hk,_=>by simp at hk
 | c :: css,h,0,j,hk,hj=>by have hc:=h c aj;simp only[Nat.zero_mul,mz,List.flatten_cons,qZ,List.getElem_cons_zero];rw[List.set_append,if_pos af]
 | c :: css,h,k+1,j,hk,hj=>by have hc:=h c aj;have t:=OX n u css (λx hx=>h x Iz) k j sN hj;simp only[List.flatten_cons,rh,List.getElem_cons_succ];rw[List.set_append,if_neg PM,<- t];congr 2;rw[hc,Nat.succ_mul];omega
theorem Each.set{α S l css w}(h:Each S l css w) k{x:α}{cs}(u:S.rel x cs w):Each S (l.set k x) (css.set k cs) w:=by
 refine⟨Ln,λi y t=>?_⟩;by_cases j:k=i
 ·grind
 ·rw[List.getElem_set_ne j,List.getElem_set_ne j];exact h.2 i aB aB
structure ag(X:Nat->Prop)(w w':World):Prop where
 os:w'.os=w.os
 tape:w'.tape=w.tape
 output:w'.output=w.output
 size:w.heap.size<=w'.heap.size
 block:∀k,k<w.heap.size->¬X k->w'.heap[k]?=w.heap[k]?
section
variable {X:Nat->Prop} {a b c w w':World}
theorem ag.rf X w:ag X w w:=⟨rfl,rfl,rfl,aD _,λ_ _ _=>rfl⟩
theorem ag.tr(h:ag X a b)(k:ag X b c):ag X a c :=
 ⟨k.os.trans h.os,k.tape.trans h.tape,k.output.trans h.output,bo h.size k.size,λi t j=>(k.block i (bw t h.size) j).trans (h.block i t j)⟩
theorem ag.aU(h:K w w') X:ag X w w':=⟨h.os,h.tape,h.output,h.size,λi j _=>h.block i j⟩
theorem ag.eP{row}(h:w.grownBy w' row)(u:∀g,row=some g->X g):ag X w w' :=
 ⟨h.os,h.tape,h.output,h.size,λi t j=>h.block i t (λe=>j (u i e.symm))⟩
theorem ag.rI{lo row}(h:ag X w w')(y:∀k,lo<=k->k<w.heap.size->some k≠row->¬X k):aK lo row w w' :=
 ⟨h.os,h.tape,h.output,h.size,λi t j u=>h.block i j (y i t j u)⟩
theorem aK.upN{lo row}(h:aK lo row w w')(j:∀k,k<lo∨some k=row->X k):ag X w w' :=
 ⟨h.os,h.tape,h.output,h.size,λi u t=>h.block i (Nat.le_of_not_lt λy=>t (j i (.inl y))) u (λe=>t (j i (.inr e)))⟩
theorem FB{base e size n v xs}(h:w.ownsRow base e size v n xs)(k:∀g,base<=g->g<w.heap.size->v.ownBlock=some g->w'.heap[g]?=w.heap[g]?):w'.ownsRow base e size v n xs:=by refine⟨h.1,h.2.imp id ?_⟩;rintro ⟨g,cap,cur,rfl,t,j,u⟩;exact⟨g,cap,cur,rfl,t,(k g t (Array.getElem?_eq_some_iff.1 j).1 rfl).trans j,u⟩
theorem lO{base e size n v xs}(h:w.ownsRow base e size v n xs){g}(hg:v.ownBlock=some g):∃cur,ah w g e cur:=by
 rcases h.2 with ⟨rfl,_⟩|⟨t,cap,cur,rfl,_,j,_⟩
 ·cases hg
 ·injection hg with hg;subst hg;exact⟨cur,j⟩
theorem ah.gY{g t j cs u}(h:ah w g t cs)(y:ah w g j u):t=j:=by
 grind [ah]
theorem O4{α S}{l:List α}{v base e css}(j:w.ownsRow base e S.size v l.length css.flatten)(t:Each S l css w):aq S l v w:=by
 have u:=j;rcases j.2 with ⟨rfl,y⟩|⟨g,cap,cur,rfl,_,_,hn,_⟩
 ·grind [List.eq_nil_of_length_eq_zero,gy]
 ·exact⟨_,_,rfl,⟨css,t,Reads.yE u⟩,hn⟩
theorem Px{base g n cap:Nat}{e:TypeId}{size:Nat}:∀(us xs:List Value) (q:Nat) (w:World),w.ownsRow base e size (.slice (some ⟨g,0,none⟩) n cap) n xs->q+us.length<=xs.length ->
 (dY w g q us).ownsRow base e size (.slice (some ⟨g,0,none⟩) n cap) n (oI xs q us)
 | [],_,_,_,h,_=>h
 | u :: us,xs,q,w,h,hl=>by simp only[dY,oI];simp only[eQ]at hl;exact Px us _ _ _ (VN h af u) aY
theorem OL n:∀(us:List Value) (css:List (List Value)),(∀cs∈css,cs.length=n)->∀(k j:Nat) (hk:k<css.length),j+us.length<=n->oI css.flatten (k*n+j) us=(css.set k (oI (css[k]) j us)).flatten
 | [],css,h,k,j,hk,hj=>by simp[oI]
 | u :: us,css,h,k,j,hk,hj=>by
  simp only[eQ]at hj;simp only[oI];rw[OX n u css h k j hk af];have B:∀cs∈css.set k ((css[k]).set j u),cs.length=n:=by
   intro cs A;rcases List.mem_or_eq_of_mem_set A with y|rfl
   ·exact h cs y
   ·simp;exact h _ (bT hk)
  have t:=OL n us (css.set k ((css[k]).set j u)) B k (j+1) sN af;rw[show k*n+j+1=k*n+(j+1) by omega,t];simp
theorem ag.sets{g:Nat}(j:X g):∀(us:List Value) (q:Nat) (w:World),ag X w (dY w g q us)
 | [],_,_=>ag.rf _ _
 | u :: us,q,w=>by simp only[dY];refine ag.tr (b:=w.setCell ⟨g,q,none⟩ u) ⟨rfl,rfl,rfl,VO,λi _ h=>Below.heap_setCell w ⟨g,q,none⟩ u i (by rintro rfl;exact h j)⟩ (ag.sets j us _ _)
end
section
open Go Go.RowKit Go.ChangeMaps
section
variable {α:Type} [DecidableEq α] {enc:α->Value} {P:Program} {kt:TypeId}
def fW(k:α):List (α×Value)->Nat->Option (Nat×Value)
 | [],_=>none
 | p :: r,i=>if p.1=k then some (i,p.2)else fW k r (i+1)
def cT(ak:List (α×Value))(k:α):Option Value:=(fW k ak 0).map (·.2)
def r7(ak:List (α×Value))(k:α)(v:Value):List (α×Value):=match fW k ak 0 with|some (i,_)=>ak.modify i λp=>(p.1,v)|none=>ak++[(k,v)]
def Ct(ak:List (α×Value))(k:α):List (α×Value):=match fW k ak 0 with|some (i,_)=>ak.eraseIdx i|none=>ak
theorem UU{k}{ak:List (α×Value)}:∀ {i j:Nat} {v:Value},fW k ak i=some (j,v)->i<=j/\ak[j-i]?=some (k,v):=by
 induction ak with
 | nil=>intro i j v h;cases h
 | cons p r t =>
  grind [fW]
structure Gk(P:Program)(kt:TypeId)(enc:α->Value):Prop where
 find:∀(k:α) (es:List MapEntry) (ak:List (α×Value)) (w:World),es.map (λe=>(e.key,e.val))=ak.map (λp=>(enc p.1,p.2))->(Instr.findKey kt (enc k) es).run P w=.ok (fW k ak 0) w
 mc:∀(k:α) (em:Bool) (w:World),(Instr.checkKey em 10000 kt (enc k)).run P w=.ok () w
 stays:∀(k:α),Instr.sameBits 10000 (enc k) (enc k)=true
theorem an1{β γ:Type}{g:β->γ} f(h:∀x,g (f x)=g x):∀(l:List β) (i:Nat),(l.modify i f).map g=l.map g:=by
 intro l
 induction l with
 | nil=>intro i;cases i <;> rfl
 | cons x l j =>
  intro i
  cases i with
  | zero=>simp[h]
  | succ i=>simp[j]
def vZ(es:List MapEntry)(c:Nat):Prop:=(es.map (·.born)).Pairwise (· < ·)/\∀n∈es.map (·.born),n<c
theorem vZ.push{es c}(h:vZ es c) k v:vZ (es++[⟨k,v,c⟩]) (c+1):=by
 refine⟨?_,λn hn=>?_⟩
 ·rw[List.map_append];exact List.pairwise_append.2 ⟨h.1,aj,λa j b hb=>by simp at hb;subst hb;exact h.2 a j⟩
 ·rw[List.map_append,Co]at hn;rcases hn with hn|hn
  ·have:=h.2 n hn;omega
  ·grind
theorem vZ.same{es j c}(h:vZ es c)(e:j.map (·.born)=es.map (·.born)):vZ j c:=by
 grind [vZ]
theorem vZ.sub{es j c}(h:vZ es c)(s:j.Sublist es):vZ j c:=⟨h.1.sublist (s.map _),λn hn=>h.2 n ((s.map _).mem hn)⟩
def dM(enc:α->Value)(w:World)(b:Nat)(ak:List (α×Value)):Prop :=
 ∃(es:Array MapEntry) (c:Nat),w.heap[b]?=some (.map es c)/\es.toList.map (λe=>(e.key,e.val))=ak.map (λp=>(enc p.1,p.2))/\vZ es.toList c
end
section
variable {α:Type} {enc:α->Value} {P:Program} {kt:TypeId}
theorem dM.new(w:World):dM enc (w.alloc (.map #[] 0)) w.heap.size []:=⟨#[],0,heap_alloc_new w _,rfl,by simp[vZ]⟩
end
section
variable {α:Type} [DecidableEq α] {enc:α->Value} {P:Program} {kt:TypeId}
end
section
variable {α:Type} {enc:α->Value} {P:Program} {kt:TypeId}
theorem dM.lt{w b ak}(h:dM enc w b ak):b<w.heap.size:=by
 obtain⟨es,c,h,_⟩:=h
 grind
end
section
variable {α:Type} [DecidableEq α] {enc:α->Value} {P:Program} {kt:TypeId}
end
section
variable {α:Type} {enc:α->Value} {P:Program} {kt:TypeId}
theorem dM.aX{w w' b ak X}(h:dM enc w b ak)(hb:ag X w w')(t:¬X b):dM enc w' b ak:=by have u:=h.lt;obtain⟨es,c,j,y⟩:=h;exact⟨es,c,(hb.block b u t).trans j,y⟩
end
section
variable {α:Type} [DecidableEq α] {enc:α->Value} {P:Program} {kt:TypeId}
end
section
variable {α:Type} {enc:α->Value} {P:Program} {kt:TypeId}
theorem dM.st{w w' b ak}(h:dM enc w b ak)(k:K w w'):dM enc w' b ak:=by have t:=h.lt;obtain⟨es,c,j,u⟩:=h;exact⟨es,c,(k.block b t).trans j,u⟩
end
section
variable {α:Type} [DecidableEq α] {enc:α->Value} {P:Program} {kt:TypeId}
end
section
variable {α:Type} {enc:α->Value} {P:Program} {kt:TypeId}
theorem dM.cells{w b ak}(h:dM enc w b ak){e cs}(hb:ah w b e cs):False:=by obtain⟨es,c,j,_⟩:=h;have:=j.symm.trans hb;cases this
end
section
variable {α:Type} [DecidableEq α] {enc:α->Value} {P:Program} {kt:TypeId}
theorem DN{t E}(u:Gk P kt enc)(A:P.underlying t=some (.map kt E)){w z}(hz:(zeroValue E).run P w=.ok z w){b ak}(h:dM enc w b ak) k :
 (Instr.lookup t (.map (some b)) (enc k) true).run P w=.ok (.tuple #[(cT ak k).getD z,.bool (cT ak k).isSome]) w/\(Instr.lookup t (.map (some b)) (enc k) false).run P w=.ok ((cT ak k).getD z) w:=by
 obtain⟨es,c,y,B,C⟩:=h
 have j:=u.find k es.toList ak w B
 unfold cT
 cases hr:fW k ak 0 with
 | none=>rw[hr]at j;simp[Instr.lookup,run_underlying A,MapKept.run_getObj_map y,u.mc,j,hz,Result.andThen]
 | some x=>rw[hr]at j;simp[Instr.lookup,run_underlying A,MapKept.run_getObj_map y,u.mc,j,Result.andThen]
theorem FC{t E}(A:Gk P kt enc)(D:P.underlying t=some (.map kt E)){w b ak}(h:dM enc w b ak) k v :
 ∃w',(Instr.mapUpdate t (.map (some b)) (enc k) v).run P w=.ok () w'/\dM enc w' b (r7 ak k v)/\w.grownBy w' (some b):=by
 obtain⟨es,c,u,h2,C⟩:=h
 have B:=A.find k es.toList ak w h2
 have hg:∀o,w.grownBy (setBlock w b o) (some b):=λo=>⟨rfl,rfl,rfl,PI,λi _ y=>heap_setBlock_other u _ (λe=>y FM)⟩
 unfold r7
 cases hr:fW k ak 0 with
 | none =>
  rw[hr]at B;refine⟨setBlock w b (.map (es.push ⟨enc k,v,c⟩) (c+1)),?_,⟨_,_,heap_setBlock_same u _,?_,by simpa using C.push (enc k) v⟩,hg _⟩
  ·simp[Instr.mapUpdate,run_underlying D,MapKept.run_getObj_map u,A.mc,B,MapKept.run_setObj_map _ u,Result.andThen,setBlock]
  ·simp[h2]
 | some x =>
  obtain⟨i,H⟩:=x;rw[hr]at B;obtain⟨-,y⟩:=UU hr;have I:es.toList.length=ak.length:=afB;have G:i<ak.length:=aB;have F:(es[i]?).map (·.key)=some (enc k):=by
   have:=congrArg (λl=>l[i]?) h2
   simp only[List.getElem?_map]at this
   rw[show i-0=i by omega]at y
   rw[y]at this
   simp only[Array.getElem?_toList,Option.map_some]at this
   cases he:es[i]? with
   | none=>rw[he]at this;simp at this
   | some e=>rw[he]at this;simp at this;simp[this.1]
  refine⟨setBlock w b (.map (es.modify i λe=>{ e with key:=enc k,val:=v }) c),?_,⟨_,_,heap_setBlock_same u _,?_,C.same (by grind [Array.toList_modify,an1])⟩,hg _⟩
  ·simp[Instr.mapUpdate,run_underlying D,MapKept.run_getObj_map u,A.mc,B,F,Instr.keyThatStays,A.stays,MapKept.run_setObj_map _ u,Result.andThen,setBlock]
  ·rw[Array.toList_modify];apply List.ext_getElem?;intro j;have J:=congrArg (λl=>l[j]?) h2;grind
theorem auY{t E}(KG:Gk P kt enc)(hT:P.underlying t=some (.map kt E)){w b ak}(h:dM enc w b ak) k ty y(hts:y[0]?=some t) :
 ∃w',(Builtin.delete_ y ty #[.map (some b),enc k]).run P w=.ok (.tuple #[]) w'/\dM enc w' b (Ct ak k)/\w.grownBy w' (some b):=by
 obtain⟨es,c,h1,h2,u⟩:=h
 have hf:=KG.find k es.toList ak w h2
 have hg:∀o,w.grownBy (setBlock w b o) (some b):=λo=>⟨rfl,rfl,rfl,PI,λi _ j=>heap_setBlock_other h1 _ (λe=>j FM)⟩
 have:es.toList.length=ak.length:=afB
 unfold Ct
 cases hr:fW k ak 0 with
 | none => rw[hr]at hf;refine⟨setBlock w b (.map es c),?_,⟨_,_,heap_setBlock_same h1 _,h2,u⟩,hg _⟩;exact afC
 | some x =>
  obtain⟨i,B⟩:=x;rw[hr]at hf;obtain⟨-,j⟩:=UU hr;have:i<es.size:=aB;refine⟨setBlock w b (.map (es.eraseIdxIfInBounds i) c),?_,⟨_,_,heap_setBlock_same h1 _,?_,u.sub (by grind [Array.toList_eraseIdx,List.eraseIdx_sublist])⟩,hg _⟩
  ·exact afC
  ·grind [Array.toList_eraseIdx,List.map,List.eraseIdx_eq_take_drop_succ,List.map_take,List.map_drop]
end
def encI(n:Int):Value:=.int .i64 n
theorem Es{P kt}(j:P.underlying kt=some (.int .i64)):Gk P kt encI:=by
 refine⟨λk es ak w h=>?_,λk y w=>OG j k y w,λk=>by simp[encI,Instr.sameBits]⟩;have key:∀(es:List MapEntry) (ak:List (Int×Value)) (i:Nat),es.map (λe=>(e.key,e.val))=ak.map (λp=>(encI p.1,p.2))->Instr.findNow (.int .i64) (.int .i64 k) es i=some (fW k ak i):=by
  intro es
  induction es with
  | nil=>intro ak i h;cases ak with
   | nil=>rfl
   | cons p r=>simp at h
  | cons e es u=>intro ak i h;cases ak with
   | nil=>simp at h
   | cons p r =>
    simp only[jU,List.cons.injEq,Prod.mk.injEq]at h;obtain⟨⟨t,A⟩,B⟩:=h;unfold Instr.findNow fW;rw[t];by_cases hk:p.1=k
    ·subst hk;simp[Instr.sameNow,encI,A]
    ·have:(k==p.1)=false:=aB;simp[Instr.sameNow,encI,this,u r (i+1) B,hk]
 simp[Instr.findKey,run_underlying j,encI,key es ak 0 h]
def lW(a:aT):Value:=.agg #[.int .i64 a.1,.int .u64 (a.2.1:Int),.int .u64 (a.2.2:Int)]
theorem asN x y w d:(Op.equalIn (d+1+1) 26 (lW x) (lW y)).run prog w=.ok (decide (x=y)) w:=by obtain⟨a,b,c⟩:=x;obtain⟨u,B,j⟩:=y;unfold lW;simp[go_sem,KL];by_cases A:a=u <;> by_cases C:b=B <;> by_cases t:c=j <;> simp[A,t,C] <;> omega
theorem Rl:Gk prog 26 lW:=by
 refine⟨λk es ak w h=>?_,λk u w=>?_,λk=>?_⟩
 ·have key:∀(es:List MapEntry) (ak:List (aT×Value)) (i:Nat),es.map (λe=>(e.key,e.val))=ak.map (λp=>(lW p.1,p.2))->(Instr.findAsking 26 (lW k) es i).run prog w=.ok (fW k ak i) w:=by
   intro es
   induction es with
   | nil=>intro ak i h;cases ak with
    | nil=>rfl
    | cons p r=>simp at h
   | cons e es ih=>intro ak i h;cases ak with
    | nil=>simp at h
    | cons p r => simp only[jU,List.cons.injEq,Prod.mk.injEq]at h;obtain⟨⟨h1,t⟩,h3⟩:=h;have he:(Op.equal 26 (lW k) (lW p.1)).run prog w=.ok (decide (k=p.1)) w:=asN k p.1 w 9998;exact afD
  obtain⟨j,hu⟩:∃j,prog.underlying 26=some (.struct j):=⟨_,underlying26⟩;cases es with
  | nil => exact afE
  | cons e es =>
   have hn:Instr.findNow (.struct j) (lW k) (e :: es) 0=none:=by rfl
   simp[Instr.findKey,run_underlying hu,hn,key (e :: es) ak 0 h]
 ·rfl
 ·unfold lW;simp[Instr.sameBits]
end
section
open Go Go.RowKit Go.ChangeMaps
section
variable {α:Type} {enc:α->Value} {P:Program}
def r8(enc:α->Value)(w:World)(b r:Nat)(ak:List (α×Value))(L:List α):Prop :=
 ∃(es:Array MapEntry) (c since:Nat) (seen:Array Nat) (c0:Nat),w.heap[b]?=some (.map es c)/\es.toList.map (λe=>(e.key,e.val))=ak.map (λp=>(enc p.1,p.2))/\vZ es.toList c /\
  w.heap[r]?=some (.mapIter (some b) since seen c0)/\(∀x∈es.toList,x.born<since)/\since<=c0/\since<=c/\(Go.leftOf es seen).toList.map (·.key)=L.map enc
theorem dM.range{t kt E w b ak}(h:dM enc w b ak)(B:P.underlying t=some (.map kt E)) :
 ∃w',(Instr.range t (.map (some b))).run P w=.ok (.pointer (some ⟨w.heap.size,0,none⟩)) w'/\r8 enc w' b w.heap.size ak (ak.map (·.1))/\w.grownBy w' none/\w'.heap.size=w.heap.size+1:=by
 have C:=h.lt
 obtain⟨es,c,j,u,y⟩:=h
 refine⟨_,run_range_map w t kt E b es c B j,⟨es,c,c,#[],c,((MapKept.heap_alloc w _).2 b C).trans j,u,y,(MapKept.heap_alloc w _).1,λx A=>y.2 _ (List.mem_map.2 ⟨x,A,rfl⟩),aD _,aD _,?_⟩,World.grownBy_alloc w _ none,aj⟩
 have:=congrArg (List.map Prod.fst) u
 simp only[List.map_map]at this
 have e:(Go.leftOf es #[]).toList=es.toList:=by simp[Go.leftOf]
 rw[e,List.map_map]
 simpa [Function.comp_def]using this
theorem aca:∀(l:List MapEntry),(l.map (·.born)).Pairwise (· < ·)->∀(i:Nat) (h:i<l.length),l.filter (λx=>!(x.born==l[i].born))=l.eraseIdx i
 | [],_,i,h=>xb
 | e :: l,hp,i,h=>by
  rw[jU,List.pairwise_cons]at hp
  cases i with
  | zero => rw[List.getElem_cons_zero,List.filter_cons_of_neg aj,List.eraseIdx_cons_zero,List.filter_eq_self];intro x u;have:=hp.1 x.born (List.mem_map.2 ⟨x,u,rfl⟩);have j:x.born≠e.born:=af;simpa using j
  | succ i => have t:i<l.length:=B7;have:=hp.1 l[i].born (List.mem_map.2 ⟨l[i],bT t,rfl⟩);have j:e.born≠l[i].born:=af;rw[List.getElem_cons_succ,List.filter_cons_of_pos (by simpa using j),List.eraseIdx_cons_succ,aca l hp.2 i t]
theorem acM{β γ:Type}(f:β->γ):∀(l:List β) (i:Nat),(l.eraseIdx i).map f=(l.map f).eraseIdx i
 | [],i=>rfl
 | x :: l,0=>rfl
 | x :: l,i+1=>by simp[acM f l i]
theorem r8.next{w b r ak L}(h:r8 enc w b r ak L) ty :
 (L=[]/\(Instr.next (.pointer (some ⟨r,0,none⟩)) false ty).run P w=.ok (.tuple #[.bool false]) w) ∨
 ∃(i:Nat) (t:i<L.length) (v:Value) (w':World),(Instr.next (.pointer (some ⟨r,0,none⟩)) false ty).run P w=.ok (.tuple #[.bool true,enc L[i],v]) w'/\r8 enc w' b r ak (L.eraseIdx i)/\w.grownBy w' (some r)/\w'.heap.size=w.heap.size/\(Instr.entry (.pointer (some ⟨r,0,none⟩))).run P w'=.ok (.tuple #[enc L[i],v]) w':=by
 obtain⟨es,c,j,seen,H,E,R,C,J,M,T,F,I⟩:=h
 have N:r≠b:=aB
 rcases run_next_at (P:=P) w ty r b j H seen es c J E M T with ⟨W,U⟩|⟨e,A,B,y,U⟩
 ·simp_all
 ·obtain⟨i,t,A⟩:=List.mem_iff_getElem.1 A;have X:L.length=(Go.leftOf es seen).toList.length:=by have:=congrArg List.length I;simpa using this.symm
  have O:i<L.length:=af;have hk:e.key=enc L[i]:=by
   have:=congrArg (λl=>l[i]?) I
   grind
  have V:B.heap[r]?=some (.mapIter (some b) j seen H):=by rcases y with rfl|rfl <;> exact J
  have Q:B.heap[b]?=some (.map es c):=by rcases y with rfl|rfl <;> exact E
  have u:=MapKept.heap_set (o':=.mapIter (some b) j (seen.push e.born) c) V;have Y:(Go.leftOf es (seen.push e.born)).toList=(Go.leftOf es seen).toList.eraseIdx i:=by
   rw[<- aca _ (C.1.sublist ((show (Go.leftOf es seen).toList.Sublist es.toList by unfold Go.leftOf;rw[Array.toList_filter];exact List.filter_sublist).map _)) i t,A]
   unfold Go.leftOf
   grind [Array.toList_filter,List.filter_filter,List.filter_congr]
  have G:(setBlock B r (.mapIter (some b) j (seen.push e.born) c)).heap[b]?=some (.map es c):=(u.2 b (λD=>N D.symm)).trans Q;have S:e∈es.toList:=by
   have:e∈(Go.leftOf es seen).toList:=A▸bT t
   unfold Go.leftOf at this
   grind
  refine .inr ⟨i,O,e.val,_,aB,⟨es,c,j,seen.push e.born,c,G,R,C,u.1,M,F,F,?_⟩,?_,?_,by rw[<- hk];exact run_entry_at _ r b j seen es c e u.1 G S (C.1.imp λh=>Nat.ne_of_lt h)⟩
  ·grind [acM]
  ·rcases y with rfl|rfl <;> exact⟨rfl,rfl,rfl,PI,λi _ t=>u.2 i (λD=>t (by rw[D]))⟩
  ·rcases y with rfl|rfl <;> simp[setBlock]
theorem r8.left{w b r ak L}(h:r8 enc w b r ak L):w.rangeLeft b r=L.length:=by obtain⟨es,c,B,seen,y,j,A,C,t,-,-,-,u⟩:=h;simp only[World.rangeLeft,j,t];have:=congrArg List.length u;simpa using this
theorem r8.walks{w w' b r ak L}(h:r8 enc w b r ak L)(k:KeepsWalks w w'):r8 enc w' b r ak L:=by obtain⟨es,c,y,seen,j,t,u,B,A,C⟩:=h;exact⟨es,c,y,seen,j,k.same b _ t rfl,u,B,k.same r _ A rfl,C⟩
theorem r8.walk{w b r ak L}(h:r8 enc w b r ak L):∃o:Obj,w.heap[r]?=some o/\o.isWalk=true:=by obtain⟨es,c,A,seen,t,u,y,B,j,C⟩:=h;exact⟨_,j,rfl⟩
end
section
variable {α:Type} {enc:α->Value} {F:Fence} {n:Nat} {P:Program} (w:World) {ops:Array Oper} {rest:List Oper} {o:Oper} {a:Act} {Q:Exit->Act->World->Prop}
theorem an2(hg:o.guard=none) m t(j:o.op=Op.range t m) k e(E:P.underlying t=some (.map k e)) b ak
 (hm:a.eval m=.map (some b)) (h:dM enc w b ak)
 (D:∀w',r8 enc w' b w.heap.size ak (ak.map (·.1))->w.grownBy w' none->w'.heap.size=w.heap.size+1->wpListIn F n P ops Q rest (a.put o.dst (.pointer (some ⟨w.heap.size,0,none⟩))) w') :
 wpListIn F n P ops Q (o :: rest) a w:=by
 refine wpListIn_plain hg λG A=>?_
 obtain⟨w',y,u,C,B⟩:=h.range E
 unfold Oper.wpIn
 refine⟨?_,?_⟩
 ·simp[Oper.about,j]
 ·rw[Oper.semAt_plain F _ _ aB];simp[execOp,j,hm,y,Result.andThen];exact A _ _ (D w' u C B)
theorem aoc(hg:o.guard=none) B(t:o.op=Op.next B false) b r ak L
 (u:a.eval B=.pointer (some ⟨r,0,none⟩)) (h:r8 enc w b r ak L)
 (J:L=[]->wpListIn F n P ops Q rest (a.put o.dst (.tuple #[.bool false])) w)
 (G:∀(i:Nat) (A:i<L.length) (v:Value) (w':World),r8 enc w' b r ak (L.eraseIdx i)->w.grownBy w' (some r)->w'.heap.size=w.heap.size->(Instr.entry (.pointer (some ⟨r,0,none⟩))).run P w'=.ok (.tuple #[enc L[i],v]) w'->wpListIn F n P ops Q rest (a.put o.dst (.tuple #[.bool true,enc L[i],v])) w') :
 wpListIn F n P ops Q (o :: rest) a w:=by
 refine wpListIn_plain hg λM y=>?_
 unfold Oper.wpIn
 refine⟨by simp[Oper.about,t],?_⟩
 rw[Oper.semAt_plain F _ _ aB]
 rcases h.next (P:=P) o.type with ⟨E,j⟩|⟨i,A,v,w',j,H,I,D,C⟩
 ·simp[execOp,t,u,j,Result.andThen];exact y _ _ (J E)
 ·simp[execOp,t,u,j,Result.andThen];exact y _ _ (G i A v w' H I D C)
end
end
section
variable {P:Program} {Q:Exit->Act->World->Prop}
def qA(t:List (List Nat×List (Nat×Nat)))(z:Nat):Nat->Nat->Bool
 | 0,_=>false
 | f+1,j=>match t[j]? with
  | none=>false
  | some y=>y.1.contains z||y.1.any (qA t z f)
theorem Ik{ops t}(C:tQ ops t=true){L}(A:Closed ops L){z}:∀(f j:Nat),qA t z f j=true->L j=true->L z=true:=by
 intro f
 induction f with
 | zero=>intro j h _;cases h
 | succ f E =>
  intro j h u
  unfold qA at h
  cases hy:t[j]? with
  | none=>rw[hy]at h;cases h
  | some y =>
   rw[hy]at h
   simp only[Bool.or_eq_true,List.contains_iff_mem,List.any_eq_true]at h
   have:=A.2 j u
   have B:ops[j]?=some ops[j]:=aj
   have D:=List.all_eq_true.1 C (ops[j],j) (List.mem_zipIdx_iff_getElem?.2 aj)
   simp only[hy,dz]at D
   have:∀i∈y.1,L i=true:=λi G=>A.1 j _ B u i aB
   grind
theorem asO{ρ w} s x t ty e base z size bytes(T:fS P t e z size bytes) v n xs(E:ρ s=v)(I:w.ownsRow base e size v n xs)
 B A m c j (D:ρ x=.slice A m c) (L:Reads w B size A m j) (y:∀u∈j,u.oneCell'=true)
 (J:(n+m)*(bytes+1)<=140737488355328) (F:base<=w.heap.size) :
 ∃v' w',(execOp ρ (aG (.call { callee:=.builtin .append,args:=#[s,x],argTypes:=#[t,t] }) ty)).run P w=.ok (.value v') w'/\w'.ownsRow base e size v' (n+m) (xs++j)/\Below base w w'/\w.grownBy w' v.ownBlock:=by
 obtain⟨v',w',C,H,M,N,G⟩:=FK w base t ty e z size bytes T v n xs I B A m c j L y J F
 refine⟨v',w',?_,H,G,M⟩
 simp only[execOp,aG,resolve,invoke,builtin,Sem.run_bind,Sem.run_pure,Result.andThen_ok,List.map_toArray,jU,List.map_nil,E,D,C]
end
section
variable {P:Program} {Q:Exit->Act->World->Prop}
def b6(V:Nat->Value)(w:World):Nat->List (Value->World->Prop)->Prop
 | _,[]=>True
 | k,φ :: r=>φ (V k) w/\b6 V w (k+1) r
def aH(P:Program)(j:Act)(E:(Nat->Value)->World->Prop):Nat->List Oper->List (List Nat×List (Nat×Nat))->(Nat->Value)->World->Prop
 | _,[],_,V,w=>E V w
 | _,_ :: _,[],_,_=>False
 | k,o :: r,x :: xs,V,w=>if bO V o.guard=true then jO P (λv w'=>aH P j E (k+1) r xs (ba V k v) w') ((execOp (aF x.2 j V) (aG o.op o.type)).run P w)else aH P j E (k+1) r xs (ba V k undef) w
def IV(t:List (List Nat×List (Nat×Nat)))(m n:Nat):Bool :=
 (List.range n).all λk=>decide (k<m)||(List.range k).all λj=>match t[k]? with
  | none=>false
  | some x=>x.1.contains j||x.1.any (qA t j n)
theorem afF{V w}:∀(s t:List (Value->World->Prop)),(∀j,t.length<=j->j<t.length+s.length->tab (t++s) j (V j) w)->b6 V w t.length s:=by
 intro s
 induction s with
 | nil=>intro t _;trivial
 | cons φ s ih =>
  intro t h;refine⟨?_,?_⟩
  ·have:=h t.length (aD _) aj;unfold tab at this;simpa [List.getD_eq_getElem?_getD]using this
  ·have:=ih (t++[φ]) (λj u y=>by
    simp at u y;have:=h j af aY;simpa using this)
   simpa using this
def Q9(t:List Nat)(u:List (List Nat×List (Nat×Nat)))(m n:Nat):Bool :=
 t.all (λj=>decide (j<m))&&(List.range n).all λk=>decide (k<m)||(List.range k).all λj=>t.contains j||match u[k]? with
  | none=>false
  | some x=>x.1.contains j||x.1.any (qA u j n)
theorem Ur{ops A y m}(D:tQ ops y=true)(B:Q9 A y m ops.size=true){L}(M:Closed ops L){k}(hk:m<=k){o}(C:ops[k]?=some o)(H:∀j∈ahead o,L j=true):∀j,j<k->j∉A->L j=true:=by
 intro j J F
 have G:=(Array.getElem?_eq_some_iff.1 C).1
 simp only[Q9,dz]at B
 have u:=List.all_eq_true.1 B.2 k (List.mem_range.2 G)
 simp only[Bool.or_eq_true,decide_eq_true_eq]at u
 rcases u with u|u
 ·omega
 have t:=List.all_eq_true.1 u j (List.mem_range.2 J)
 simp only[Bool.or_eq_true,List.contains_iff_mem]at t
 have t:=t.resolve_left F
 cases hx:y[k]? with
 | none=>rw[hx]at t;cases t
 | some x =>
  rw[hx]at t;simp only[Bool.or_eq_true,List.contains_iff_mem,List.any_eq_true]at t;have E:=List.all_eq_true.1 D (o,k) (List.mem_zipIdx_iff_getElem?.2 aB);simp only[hx,dz]at E;have:∀i∈x.1,L i=true:=λi I=>H i aB
  rcases t with t|⟨i,I,t⟩
  ·grind
  ·grind [Ik]
end
section
variable {X Y:Nat->Prop} {w w' w'' W W':World}
theorem ag.bK{b}(j:X b) i u:ag X W (W.setCell ⟨b,i,none⟩ u):=ag.sets j [u] i W
theorem ag.more(h:ag X W W')(u:∀k,X k->Y k):ag Y W W':=⟨h.os,h.tape,h.output,h.size,λi t j=>h.block i t λh=>j (u i h)⟩
theorem ag.gq(u:ag X w w')(v:ag Y w' w'')(y:∀k,k<w.heap.size->Y k->X k):ag X w w'' :=
 ⟨v.os.trans u.os,v.tape.trans u.tape,v.output.trans u.output,bo u.size v.size,λk j t=>(v.block k (bw j u.size) (λh=>t (y k j h))).trans (u.block k j t)⟩
theorem iN{base e size n v xs}(h:W.ownsRow base e size v n xs)(u:ag X W W')(y:∀b,v.ownBlock=some b->¬X b):W'.ownsRow base e size v n xs :=
 FB h λb _ j t=>u.block b j (y b t)
theorem ag.low{B}(u:ag X w w')(t:∀k,X k->B<=k)(j:B<=w.heap.size):Below B w w' :=
 ⟨u.os,u.tape,u.output,u.size,λi y=>u.block i (bw y j) λe=>by have:=t i e;omega⟩
theorem ag.k{a}(u:ag X w w')(h:K a w)(j:∀k,X k->a.heap.size<=k):K a w':=h.trans (u.low j h.size)
theorem ah.aX{b t cs}(h:ah W b t cs)(u:ag X W W')(hb:¬X b):ah W' b t cs:=(u.block b h.lt hb).trans h
theorem ag.al X W o:ag X W (W.alloc o):=ag.aU ((K.rf W).al o) X
theorem ag.fresh{a}(u:ag X a W){b}(hb:a.heap.size<=b) i v:ag X a (W.setCell ⟨b,i,none⟩ v) :=
 ⟨u.os,u.tape,u.output,by simpa [World.setCell]using u.size,λk hk j=>(Below.heap_setCell W ⟨b,i,none⟩ v k aY).trans (u.block k hk j)⟩
end
def Fx(M:Nat->Prop)(p:World->Prop)(w:World):Prop:=∀W,ag M w W->p W
section
variable {M N X:Nat->Prop} {p q:World->Prop} {w w':World}
theorem Fx.now(h:Fx M p w):p w:=h w (ag.rf _ _)
theorem Fx.k(h:Fx M p w)(k:K w w'):Fx M p w':=λW u=>h W ((ag.aU k _).tr u)
theorem Fx.up(h:Fx M p w)(u:ag X w w')(t:∀k,X k->M k):Fx M p w':=λW j=>h W ((u.more t).tr j)
theorem Fx.less(h:Fx M p w)(j:∀k,N k->M k):Fx N p w:=λW u=>h W (u.more j)
theorem Fx.mono(h:Fx M p w)(hp:∀W,p W->q W):Fx M q w:=λW u=>hp W (h W u)
theorem Fx.at(h:Fx M p w)(k:K w w'):p w':=h w' (ag.aU k _)
theorem Fx.to(h:Fx M p w)(u:ag X w w')(t:∀k,X k->M k)(j:∀k,k<w.heap.size->N k->M k):Fx N p w':=λW v=>h W ((u.more t).gq v j)
theorem Fx.fresh{lo}(h:∀W,aK lo none w W->p W)(j:∀k,M k->k<lo):Fx M p w :=
 λW u=>h W (u.rI λk y _ _ t=>by have:=j k t;omega)
end
abbrev AX(n:Int):List Value:=[.int .i64 n]
def cL:dV Int where
 size:=1
 rel:=λn cs _=>cs=AX n
 len:=by rintro x cs w rfl;rfl
 one:=by rintro x cs w rfl u j;simp at j;subst j;rfl
 st:=λh _=>h
theorem Fw l W:Each cL l (l.map AX) W:=⟨aj,λi h j=>by simp[cL]⟩
theorem UW(l:List Int):(l.map AX).flatten=l.map λn=>Value.int .i64 n:=by
 induction l with
 | nil=>rfl
 | cons a l j=>simp[AX,j]
theorem OM{l css W}(h:Each cL l css W):css=l.map AX:=by
 refine List.ext_getElem Ln λi j t=>?_
 have:=h.2 i aB j;simpa [cL]using this
section
variable {α:Type} {S:dV α} {Y:Nat->Prop} {base:Nat} {e:TypeId} {l:List α} {v:Value} {w w':World}
def aC(Y:Nat->Prop)(base:Nat)(e:TypeId)(S:dV α)(l:List α)(v:Value)(w:World):Prop :=
 ∃css,w.ownsRow base e S.size v l.length css.flatten/\css.length=l.length/\∀w',ag (λk=>Y k∨v.ownBlock=some k) w w'->Each S l css w'
theorem aC.nil Y base e(S:dV α) w:aC Y base e S [] (.slice none 0 0) w:=⟨[],jV _ _ _ _,rfl,λ_ _=>Each.nil _ _⟩
theorem aC.st(h:aC Y base e S l v w)(k:K w w'):aC Y base e S l v w':=by obtain⟨css,y,j,t⟩:=h;exact⟨css,pZ y k,j,λA u=>t A ((ag.aU k _).tr u)⟩
theorem aC.blk(h:aC Y base e S l v w):∀g,v.ownBlock=some g->base<=g/\g<w.heap.size:=by obtain⟨css,j,-,-⟩:=h;exact λg hg=>j.lt g hg
theorem aC.up{Y'}(h:aC Y base e S l v w)(u:ag Y' w w')(j:∀k,Y' k->Y k)(hb:∀k,Y' k->k<base):aC Y base e S l v w':=by have:=h.blk;obtain⟨css,t,y,C⟩:=h;exact⟨css,iN t u λb F E=>aB,y,λA B=>C A ((u.more λk hk=>.inl (j k hk)).tr B)⟩
theorem aC.less{Y'}(h:aC Y base e S l v w)(y:∀k,Y' k->Y k):aC Y' base e S l v w:=by obtain⟨css,j,A,t⟩:=h;exact⟨css,j,A,λw' u=>t w' (u.more λk hk=>hk.imp (y k) id)⟩
theorem aC.low{base'}(h:aC Y base e S l v w)(hb:base'<=base):aC Y base' e S l v w:=afv
theorem aC.aq(h:aC Y base e S l v w):aq S l v w:=by obtain⟨css,t,u,j⟩:=h;exact O4 t (j w (ag.rf _ _))
theorem aC.fx(h:aC Y base e S l v w)(hb:∀k,Y k->k<base):Fx Y (λW=>Go.Proofs.YtfndfpdhlbmboaaGreat.aq S l v W) w:=λ_ u=>(h.up u (λ_ h=>h) hb).aq
theorem aC.slice(h:aC Y base e S l v w):∃A c,v=.slice A l.length c:=av h.aq
theorem aV.sw{lo}(h:aV base lo e S l v w):aC (λk=>k<lo) base e S l v w:=by obtain⟨css,j,y,t⟩:=h;exact⟨css,j,y,λw' u=>t w' (u.rI λk j _ t A=>aB)⟩
theorem aC.toL{lo}(h:aC (λk=>k<lo) base e S l v w):aV base lo e S l v w:=by obtain⟨css,j,y,t⟩:=h;exact⟨css,j,y,λw' u=>t w' (u.upN λk hk=>hk.imp id λh=>h.symm)⟩
def uv(N:Nat->Prop)(S:dV α)(x:α)(v:Value)(W:World):Prop:=v.cells.size=S.size/\Fx N (λW=>S.rel x v.cells.toList W) W
def ez(N:Nat->Prop)(lo:Nat)(e:TypeId)(S:dV α)(x:α)(v:Value)(W:World):Prop:=∃g cs,v=.slice (some ⟨g,0,none⟩) 1 1/\lo<=g/\ah W g e cs/\Fx N (λW=>S.rel x cs.toList W) W
theorem awE N lo e S(x:α):∀v w w',ez N lo e S x v w->Below w.heap.size w w'->ez N lo e S x v w':=by rintro v w w'⟨g,cs,u,j,y,t⟩ k;exact⟨g,cs,u,j,y.ay k,t.k k⟩
variable {P:Program} {ρ:Operand->Value}
theorem asP(a b:Array Value)(h:a.size=b.size) m:b.zipIdx.foldl (λcs (x:Value×Nat)=>cs.setIfInBounds (0*m+x.2) x.1) a=b:=by
 obtain⟨la⟩:=a;obtain⟨lb⟩:=b;simp at h;have key:∀(r pre q:List Value),la.length=pre.length+r.length->q.length=r.length->(List.zipIdx r pre.length).foldl (λ(cs:Array Value) (x:Value×Nat)=>cs.setIfInBounds x.2 x.1) (pre++q).toArray=(pre++r).toArray:=by
  intro r
  induction r with
  | nil=>intro pre q _ j;simp at j;subst j;simp
  | cons x r t =>
   intro pre q B u
   cases q with
   | nil=>simp at u
   | cons y q =>
    simp only[List.zipIdx_cons,List.foldl_cons]
    have A:(pre++y :: q).toArray.setIfInBounds pre.length x=(pre++[x]++q).toArray:=aj
    rw[A]
    have:=t (pre++[x]) q aB aB
    grind
 have:=key lb [] la aB h;simpa using this
theorem auZ size a v(y:v.cells.size=size)(u:a.size=size):Instr.fill (λi=>some (i*size,size)) a [(0,v)]=some v.cells:=by have h:=asP a v.cells af size;have j:¬(0*size+v.cells.size>a.size):=af;have t:¬(v.cells.size≠size):=af;simp only[Instr.fill,t,j,decide_false,Bool.or_false,Bool.false_eq_true,if_false];exact congrArg some h
theorem ard t z size bytes(T:fS P t e z size bytes)(D:v.cells.size=size)(F:size<=16777216) :
 (Instr.buildSlice t 1 #[(0,v)]).run P w=.ok (.slice (some ⟨w.heap.size,0,none⟩) 1 1) (w.alloc (.cells v.cells e)):=by
 obtain⟨i,j,B,y,G⟩:=T.fit
 have:=T.pos
 have E:¬(1*size>2^24):=af
 have A:¬(1*size=0):=af
 have hz:(zeroValue e).run P w=.ok z w:=by simp[zeroValue,typeInfo,j,B]
 have C:=auZ size ((Array.range (1*size)).map λk=>z.cells[k%z.cells.size]!) v D aj
 have u:(sizeOf e).run P w=.ok size w:=by simp[sizeOf,typeInfo,j,y]
 unfold Instr.buildSlice
 simp only[Sem.run_bind,Result.andThen_ok,run_underlying T.und,u,E,A,if_false,Sem.run_pure,hz,C]
 simp[newRow,go_sem]
theorem acb t ty z size bytes(T:fS P t e z size bytes) x(j:ρ x=v)(y:v.cells.size=size)(u:size<=16777216) :
 (execOp ρ (aG (.buildSlice t 1 #[(0,x)]) ty)).run P w=.ok (.value (.slice (some ⟨w.heap.size,0,none⟩) 1 1)) (w.alloc (.cells v.cells e)):=by
 have h:=ard (P:=P) (w:=w) t z size bytes T y u
 subst j
 simp only[execOp,aG,List.map_toArray,jU,List.map_nil,Sem.run_bind,h,Result.andThen_ok,Sem.run_pure]
theorem aej t ty z size bytes(T:fS P t e z size bytes)(I:S.size=size)(G:aC Y base e S l v w) u x(A:ez (λk=>Y k∨v.ownBlock=some k) 0 e S x u w)
 (M:(l.length+1)*(bytes+1)<=140737488355328) (J:base<=w.heap.size) :
 ∃v' w',(Builtin.append_ #[t,t] ty #[v,u]).run P w=.ok v' w'/\aC Y base e S (l++[x]) v' w'/\w.grownBy w' v.ownBlock/\(v'.ownBlock=v.ownBlock∨v'.ownBlock=some w.heap.size)/\Below base w w':=by
 subst I
 obtain⟨g,cs,rfl,-,hb,C⟩:=A
 obtain⟨css,N,O,F⟩:=G
 have hrel:=C.now
 have:=S.len hrel
 have Q:Reads w w.heap.size S.size (some ⟨g,0,none⟩) 1 cs.toList:=⟨af,λ_=>⟨g,0,rfl,hb.lt,λj u A=>by
  rw[mz,hb.cell j];simpa using A⟩⟩
 obtain⟨v',w',H,h2,B,y,L⟩:=FK w base t ty e z S.size bytes T v l.length css.flatten N w.heap.size _ 1 1 _ Q (S.one hrel) M J
 refine⟨v',w',H,⟨css++[cs.toList],yy,by simp[O],λD u=>?_⟩,B,y,L⟩
 have E:=(ag.eP (X:=λk=>Y k∨v.ownBlock=some k) B (λg hg=>.inr hg)).gq u λk hk h=>by
  rcases h with h|h
  ·exact .inl h
  ·rcases y with y|y <;> rw[y]at h
   ·exact .inr h
   ·injection h with h;omega
 exact (F D E).snoc (C D E)
theorem adt s x t ty z size bytes(T:fS P t e z size bytes)(C:S.size=size)(F:ρ s=v)(y:aC Y base e S l v w) u(B:ρ x=u) a(j:ez (λk=>Y k∨v.ownBlock=some k) 0 e S a u w)
 (E:(l.length+1)*(bytes+1)<=140737488355328) (D:base<=w.heap.size) :
 ∃v' w',(execOp ρ (aG (.call { callee:=.builtin .append,args:=#[s,x],argTypes:=#[t,t] }) ty)).run P w=.ok (.value v') w'/\aC Y base e S (l++[a]) v' w'/\w.grownBy w' v.ownBlock/\(v'.ownBlock=v.ownBlock∨v'.ownBlock=some w.heap.size)/\Below base w w':=by
 obtain⟨v',w',A,h⟩:=aej (P:=P) t ty z size bytes T C y u a j E D
 refine⟨v',w',?_,h⟩
 subst F B
 simp only[execOp,aG,resolve,invoke,builtin,Sem.run_bind,Sem.run_pure,Result.andThen_ok,List.map_toArray,jU,List.map_nil,A]
theorem jz{ops rest o a Q}(C:o.guard=none) s x t
 (A:o.op=.call { callee:=.builtin .append,args:=#[s,x],argTypes:=#[t,t] })
 z size bytes (T:fS P t e z size bytes) (F:S.size=size) (L:a.eval s=v) (y:aC Y base e S l v w) u (D:a.eval x=u) b (j:ez (λk=>Y k∨v.ownBlock=some k) 0 e S b u w)
 (I:(l.length+1)*(bytes+1)<=140737488355328) (G:base<=w.heap.size)
 (h:∀v' w',aC Y base e S (l++[b]) v' w'->w.grownBy w' v.ownBlock->(v'.ownBlock=v.ownBlock∨v'.ownBlock=some w.heap.size)->Below base w w'->wpList P ops Q rest (a.put o.dst v') w') :
 wpList P ops Q (o :: rest) a w:=by
 refine wpList_plain C λK J=>?_
 obtain⟨v',w',E,B,H,M,N⟩:=aej (P:=P) t o.type z size bytes T F y u b j I G
 unfold Oper.wp execOp
 simp only[A,resolve,invoke,builtin,Sem.run_bind,Sem.run_pure,Result.andThen_ok,List.map_toArray,jU,List.map_nil,L,D,E]
 exact J _ _ (h v' w' B H M N)
theorem ez.new{N x}(h:Fx N (λW=>S.rel x v.cells.toList W) w) lo(j:lo<=w.heap.size):ez N lo e S x (.slice (some ⟨w.heap.size,0,none⟩) 1 1) (w.alloc (.cells v.cells e)) :=
 ⟨w.heap.size,v.cells,rfl,j,ah.new _ _ _,h.k ((K.rf w).al _)⟩
theorem ez.less{N j lo x}(h:ez N lo e S x v w)(u:∀k,j k->N k):ez j 0 e S x v w:=by obtain⟨g,cs,A,B,y,t⟩:=h;exact⟨g,cs,A,af,y,t.less u⟩
end
section
variable {α:Type} {S:dV α} {P:Program} {a0:Act} {w0:World} {Fin:List (Value->World->Prop)->Prop} {o:Oper} {r:List Oper} {x:List Nat×List (Nat×Nat)} {xs:List (List Nat×List (Nat×Nat))} {t:List (Value->World->Prop)} {N Y:Nat->Prop} {lo base:Nat} {e:TypeId} {E:(Nat->Value)->World->Prop} {k:Nat} {V:Nat->Value} {w:World}
theorem aH.push s u j z size bytes(T:fS P j e z size bytes)(H:S.size=size)(D:o.op=.call { callee:=.builtin .append,args:=#[s,u],argTypes:=#[j,j] })(hg:o.guard=none)
 v l y (J:aF x.2 a0 V s=v) (A:aC Y base e S l v w) (t:ez (λk=>Y k∨v.ownBlock=some k) 0 e S y (aF x.2 a0 V u) w) (I:(l.length+1)*(bytes+1)<=140737488355328) (F:base<=w.heap.size)
 (h:∀v' w',aC Y base e S (l++[y]) v' w'->w.grownBy w' v.ownBlock->(v'.ownBlock=v.ownBlock∨v'.ownBlock=some w.heap.size)->Below base w w'->aH P a0 E (k+1) r xs (ba V k v') w') :
 aH P a0 E k (o :: r) (x :: xs) V w:=by
 obtain⟨v',w',C,B,G,L,M⟩:=adt (P:=P) (ρ:=aF x.2 a0 V) s u j o.type z size bytes T H J A _ rfl y t I F
 unfold aH
 rw[hg,if_pos (show bO V none=true from rfl),D,C]
 exact h v' w' B G L M
theorem aH.nil(h:E V w):aH P a0 E k [] xs V w:=by assumption
theorem aH.skip w'(hg:o.guard=none)(hx:(execOp (aF x.2 a0 V) (aG o.op o.type)).run P w=.ok .skip w')(h:aH P a0 E (k+1) r xs (ba V k undef) w'):aH P a0 E k (o :: r) (x :: xs) V w:=VP
theorem aH.pure v(hg:o.guard=none)(hx:(execOp (aF x.2 a0 V) (aG o.op o.type)).run P w=.ok (.value v) w)(h:aH P a0 E (k+1) r xs (ba V k v) w):aH P a0 E k (o :: r) (x :: xs) V w:=VP
theorem aH.val v w'(hg:o.guard=none)(hx:(execOp (aF x.2 a0 V) (aG o.op o.type)).run P w=.ok (.value v) w')(h:aH P a0 E (k+1) r xs (ba V k v) w'):aH P a0 E k (o :: r) (x :: xs) V w:=VP
end
def MP:dV UInt8 where
 size:=1
 rel:=λb cs _=>cs=[.int .u8 (b.toNat:Int)]
 len:=by rintro x cs w rfl;rfl
 one:=by rintro x cs w rfl u j;simp at j;subst j;rfl
 st:=λh _=>h
theorem aek l:(l.map λb=>[Value.int .u8 b.toNat]).flatten=dN l:=by
 induction l with
 | nil=>rfl
 | cons a l j=>simp[j,dN]
theorem Own.sw{Y w base e v l}(h:Own w base e v l):aC Y base e MP l v w :=
 ⟨l.map λb=>[.int .u8 b.toNat],by rw[aek];exact h,aj,λw' _=>⟨aj,λi h j=>by simp[MP]⟩⟩
theorem aC.bytes{Y w base e v l}(h:aC Y base e MP l v w):Own w base e v l:=by
 obtain⟨css,j,t,u⟩:=h;have y:=u w (ag.rf _ _);have:css=l.map λb=>[Value.int .u8 b.toNat]:=List.ext_getElem (by simp[t]) λi j t=>by have:=y.2 i af j;simpa [MP]using this
 rw[this,aek]at j;exact j
theorem Uk A c l w B(hR:Reads w B 4 A l.length (l.flatMap kJ))(C:B<=w.heap.size) :
 Calls prog 226 #[.slice A l.length c] w λe w'=>e=.returned (.int .i64 (jX l))/\Below w.heap.size w w':=by
 by_cases h1:l.length<1
 ·have h1':(l.length:Int)<1:=af;have HE:Hid (jX l=40):=ae (by simp[jX,fN,show ¬1<=l.length by omega]);exact afG
 have h1':¬(l.length:Int)<1:=af
 by_cases jn:16<l.length
 ·have Y:(16:Int)<(l.length:Int):=af;have HE:Hid (jX l=40):=ae (by simp[jX,fN];omega);exact afG
 have Y:¬(16:Int)<(l.length:Int):=af
 obtain⟨b,E,rfl,u,M⟩:=hR.Mj af
 have Q:=ae M
 clear M hR
 go_in
 go_wp2
 go_step3
 go_wp2_with fail
 go_step3
 go_wp2_with fail
 go_loopw [3,16] (fun m i wr=>∃k:Nat,k<=l.length/\m=.int .i64 k/\i=.int .i64 k/\Hid (jF none (l.take k)=true)/\Below w.heap.size w wr) (fun _ i _=>l.length-(intOf i).toNat)
 case atStart=>exact⟨0,af,rfl,rfl,ae cC,cP _ _⟩
 case round =>
  obtain⟨k,hk,rfl,rfl,N,hb⟩:=hrel;by_cases F:k<l.length
  ·have fe:(k:Int)<l.length:=af;obtain⟨D,O,J,L⟩:=Q.aa k F;have R:=(hb.cell (p:=⟨b,E+k*4,none⟩) (bw u C)).trans D;have d1:=(hb.cell (p:=⟨b,E+k*4+1,none⟩) (bw u C)).trans O;have d2:=(hb.cell (p:=⟨b,E+k*4+2,none⟩) (bw u C)).trans J;have d3:=(hb.cell (p:=⟨b,E+k*4+3,none⟩) (bw u C)).trans L;clear D O J L;have hz:=hb.size;have hzz:b<wr.heap.size:=af;have ru:=ae (awr l (k+1));have AU:∀W,Below wr.heap.size wr W->Below w.heap.size w W:=λW h=>hb.trans (h.mono hz)
   have AU:=ae AU;rcases Nat.eq_zero_or_pos k with G|G
   ·have hT:Hid (jF none (l.take (k+1))=j8 l[k]):=by subst G;exact ae (auz l F)
    have MQ:¬(0:Int)<(k:Int):=af;have V:decide (0<k)=false:=aY;clear G;generalize l[k]=x at *;obtain⟨s,vk,vn,vs⟩:=x;simp only at R d1 d2 d3;go_wp2_with fail
    apply aI (Uz s _);rintro w' rfl;cases hn:sO s
    ·exact afH
    ·go_wp2_with fail
     apply aI (OW vk vn vs _);intro w2 t;have qJ:=((cP _ _).alloc (aD _) _).trans (t.mono aj);have H:=(ah.new wr 76 #[.string s,.int .i64 vk,.int .i64 vn,.string vs]).below t aj;clear t;cases hv:iP vk vn vs
     ·exact afI
     ·have hch:(mc vk vn vs != 0)=false:=by simp[mc,hv]
      have I:=H.cell 0;simp at I;go_wp2_with fail
      go_quiet (fail);have hr:Hid (jF none (l.take (k+1))=true):=ae (by rw[hT.aa];simp[j8,hn,hv]);exact afJ
   ·have MQ:(0:Int)<(k:Int):=af;have V:decide (0<k)=true:=aY;have U:k-1<l.length:=af;have hT:Hid (jF none (l.take (k+1))=(jF none (l.take k)&&(j8 l[k]&&mf l[k-1].1 l[k].1))):=by refine ae ?_;obtain⟨j,rfl⟩:∃j,k=j+1:=⟨k-1,af⟩;exact auA l j F
    obtain⟨D,_⟩:=Q.aa (k-1) U;have Z:=(hb.cell (p:=⟨b,E+(k-1)*4,none⟩) (bw u C)).trans D;clear D;generalize l[k-1].1=y at *;generalize l[k]=x at *;obtain⟨s,vk,vn,vs⟩:=x;simp only at R d1 d2 d3 hT;go_wp2_with fail
    apply aI (Uz s _);rintro w' rfl;cases hn:sO s
    ·exact afH
    ·go_wp2_with fail
     apply aI (OW vk vn vs _);intro w2 t;have qJ:=((cP _ _).alloc (aD _) _).trans (t.mono aj);have H:=(ah.new wr 76 #[.string s,.int .i64 vk,.int .i64 vn,.string vs]).below t aj;clear t;cases hv:iP vk vn vs
     ·exact afI
     ·have hch:(mc vk vn vs != 0)=false:=by simp[mc,hv]
      have I:=H.cell 0;simp at I;have p1:=(qJ.cell hzz).trans Z;have T:IntKind.i64.wrap ((k:Int)-1)=(k:Int)-1:=IntWalk.i64_in _ af;have hp1:(1:Int)<=(k:Int):=af;have hp2:((k:Int)-1).toNat=k-1:=af;have hp3:(k:Int)-1<(l.length:Int):=af;cases mL:mf y s
      ·have X:(!(Op.bytesLess y.toList s.toList))=true:=by unfold mf at mL;simp[mL]
       have HB:=ae (ru.aa (by rw[hT.aa];simp[j8,mL]));go_wp2_with fail
       go_quiet (fail);go_wp2;rw[ig];go_ret;exact⟨FP,AU.aa _ (below_drewN qJ _)⟩
      ·have X:(!(Op.bytesLess y.toList s.toList))=false:=by unfold mf at mL;simp[mL]
       have hr:Hid (jF none (l.take (k+1))=true):=ae (by rw[hT.aa,N.aa];simp[j8,hn,hv,mL]);go_wp2_with fail
       go_quiet (fail);clear T hp2;exact afJ
  ·have fe:¬(k:Int)<l.length:=af;have S:k=l.length:=af;have HE:=ae (auB l af af (by have:=N.aa;rwa [S]at this));clear S;go_wp2;try rw[ig]
   exact PT
section
variable {l la lb:List cM} {b:List UInt8} {v va vb:Value} {w:World}
theorem acN(h:iy l v w):Calls prog 226 #[v] w λe w'=>e=.returned (.int .i64 (jX l))/\Below w.heap.size w w':=by obtain⟨A,c,rfl,j⟩:=h;exact Uk A c l w _ j (aD _)
end
theorem acO a w :
 Calls prog 276 #[cA a] w λe w'=>e=.returned (.bool (qX a.1))/\K w w':=by
 obtain⟨b,l,s⟩:=a
 have hb:=K.new w (.cells #[.int .i64 b,.int .u64 l,.int .u64 s] 26)
 go_in
 go_wp2
 all_goals
  go_ret
  refine⟨?_,hb⟩
  show Ending.returned (.bool _)=Ending.returned (.bool _)
  congr 2
  unfold qX
  simp
  try omega
def FQ(x:aL):Bool:=decide (x=dC)
theorem apV x:FQ x=(decide (x.kind=0)&&(decide (x.br=0)&&decide (x.life=0)&&decide (x.bY=0))&&decide (x.cl=0)&&decide (x.sub=0)&&x.f.isEmpty&&x.es.isEmpty):=by
 obtain⟨k,b,l,s,c,u,f,es⟩:=x
 grind [FQ,dC]
theorem acd x v w(h:dx x v w) :
 Calls prog 275 #[v] w λe w'=>e=.returned (.bool (FQ x))/\K w w':=by
 obtain⟨vf,y,rfl,j,t⟩:=h
 obtain⟨A,c,rfl⟩:=b5 j
 obtain⟨D,d,rfl⟩:=av t
 obtain⟨k,b,l,s,cl,u,f,es⟩:=x
 simp only
 go_in
 go_wp2
 all_goals
  go_ret
  refine⟨?_,(K.rf w).al _⟩
  rw[apV]
  show Ending.returned (.bool _)=Ending.returned (.bool _)
  simp_all [Md]
theorem Fy{x}(h:bH x=false):qY x=110:=by simp[qY,h]
theorem KO{x}(h:bH x=true):qY x=0:=by simp[qY,h]
theorem awF l:(jX l==0)=fN l:=by grind [jX,fN]
theorem awG l:(nt l==0)=okF l:=by grind [nt,okF]
theorem H8{α:Type}(p:α->Bool)(l:List α)(k:Nat)(h:k<l.length):(l.take (k+1)).all p=((l.take k).all p&&p l[k]):=ae3
theorem OO{α:Type} p(l:List α) k(h:(l.take k).all p=false):l.all p=false:=by
 cases hl:l.all p with
 | false=>rfl
 | true =>
  grind
theorem Kx x v w(h:dx x v w) :
 Calls prog 241 #[v] w λe w'=>e=.returned (.int .i64 (qY x))/\K w w':=by
 obtain⟨vf,Q,rfl,M,B⟩:=h
 obtain⟨A,c,rfl⟩:=b5 M
 obtain⟨D,d,e0,B,hd⟩:=B
 obtain rfl:=e0
 obtain⟨k,b,l,s,cl,u,f,es⟩:=x
 simp only at M B hd⊢
 have F:=ah.new w 126 (aE ⟨k,b,l,s,cl,u,f,es⟩ (.slice A f.length c) (.slice D es.length d))
 have y:=F.aS
 have hg:w.heap.size<(w.alloc (.cells (aE ⟨k,b,l,s,cl,u,f,es⟩ (.slice A f.length c) (.slice D es.length d)) 126)).heap.size:=aj
 generalize xu:qY ⟨k,b,l,s,cl,u,f,es⟩=E
 go_in
 go_wp2_with fail
 generalize w.alloc _=O at *
 generalize w.heap.size=g at F hg⊢
 have qx:=F.cells
 have S:=eu _ _ _ _ M y
 have W:=XN B y
 apply cF (acO (b,l,s) O) y
 intro Z J bB
 cases hh:qX b
 ·have HE:Hid (E=110):=ae (by rw[<- xu];exact Fy (by simp[bH,hh]));go_wp2;go_ret;exact⟨iq,bB⟩
 by_cases hc0:cl<0
 ·exact afK
 by_cases hc1:32<=cl
 ·exact afK
 by_cases I:k=1
 ·subst I;have HE:Hid (E=if (decide (u=0)&&f.isEmpty&&decide (es.length<=8)&&es.all fN)=true then 0 else 110):=ae (by
   rw[<- xu];simp[qY,bH,hh,show 0<=cl by omega,show cl<32 by omega])
  go_upto_region 8 with fail;go_cut [3]from 27 to 41 (fun v wc=>v=.bool (decide (u=0)&&f.isEmpty&&decide (es.length<=8))/\wc=Z)
  case first =>
   have e1:((u:Int)==0)=decide (u=0):=by
    by_cases h:u=0
    ·subst h;rfl
    ·simp[h]
   have T:=Md f;by_cases C:u=0;rotate_left
   ·have Bi:((u:Int)==0)=false:=by simpa using C
    go_wp2;go_meet
    case rel=>simp[C]
   subst C;by_cases t:f=[];rotate_left
   ·have Bi:((f.length:Int)==0)=false:=by rw[Md];simpa using t
    go_wp2;go_meet
    case rel=>simp[t]
   subst t;by_cases h8:es.length<=8
   ·have Y:(es.length:Int)<=8:=af;go_wp2;go_meet
    case rel=>simp[h8]
   ·have Y:¬(es.length:Int)<=8:=af;go_wp2;go_meet
    case rel=>simp[h8]
  case rest =>
  obtain⟨rfl,rfl⟩:=hcut;have h8:Hid ((decide (u=0)&&f.isEmpty&&decide (es.length<=8))=true->es.length<=8):=ae aj;generalize (decide (u=0)&&f.isEmpty&&decide (es.length<=8))=L at *;go_wp2_with fail
  go_loopw [3,4] (fun mv iv wr=>∃(m:Bool) (j:Nat),mv=.bool m/\iv=.int .i64 j/\j<=es.length/\Hid (m=(L&&(es.take j).all fN))/\K O wr) (fun _ i _=>es.length-(intOf i).toNat)
  case atStart=>exact⟨L,0,rfl,rfl,af,ae aj,J⟩
  case round =>
   obtain⟨m,j,rfl,rfl,hj,hm,kr⟩:=hrel;cases m
   ·have HB:Hid (E=110):=ae (by
     rw[HE.aa,if_neg];have hm:=hm.aa;cases L
     ·simp
     ·simp only[Bool.true_and]at hm;have:=OO fN es j hm.symm;rw[this];simp)
    go_wp2;go_ret;exact⟨FP,y.tr kr⟩
   have h88:=h8.aa (by have:=hm.aa.symm;simp only[dz]at this;exact this.1);by_cases N:j<es.length
   ·have aO:(j:Int)<es.length:=af;obtain⟨b1,off,cs,rfl,U,hcl,⟨Q,rfl,V⟩,X⟩:=IU W j N ax;have d0:wr.cell? ⟨b1,off+j,none⟩=some Q:=by have:=X 0 ax;rw[kr.cell (by simpa using U)];simpa [cI]using this
    have Gl:=mY _ _ _ _ V kr;go_wp2_with fail
    apply aI (acN Gl);intro R k3;have e3:=awF es[j];go_wp2;go_roundw
    case rel=>exact⟨fN es[j],j+1,rfl,bD,af,ae (by rw[H8 fN es j N,<- Bool.and_assoc,<- hm.aa];rfl),kr.tr k3⟩
    case measure=>simp[intOf];omega
   ·have aO:¬(j:Int)<es.length:=af;have HB:Hid (E=0):=ae (by
     have hm:=hm.aa;rw[gI af]at hm;rw[HE.aa,if_pos hm.symm])
    go_wp2;go_ret;exact⟨FP,y.tr kr⟩
 by_cases H:k=3
 ·subst H;have HE:Hid (E=if (f.isEmpty&&es.isEmpty)=true then 0 else 110):=ae (by
   rw[<- xu];simp[qY,bH,hh,show 0<=cl by omega,show cl<32 by omega])
  cases t:f.isEmpty
  ·have T:((f.length:Int)==0)=false:=by rw[Md,t]
   have HB:Hid (E=110):=ae (by rw[HE.aa,t];rfl);go_wp2;go_ret;exact⟨FP,bB⟩
  obtain rfl:f=[]:=by simpa using t
  cases MT:es.isEmpty
  ·exact afL
  obtain rfl:es=[]:=by simpa using MT
  have HB:Hid (E=0):=ae iq;go_wp2_with fail
  apply aI (acK (eu _ _ _ _ S J));intro R k3;rw[show nt []=0 from rfl];exact VQ
 by_cases G:k=2
 ·subst G;have HE:Hid (E=if (es.isEmpty&&okF f)=true then 0 else 110):=ae (by
   rw[<- xu];simp[qY,bH,hh,show 0<=cl by omega,show cl<32 by omega])
  cases MT:es.isEmpty
  ·exact afL
  obtain rfl:es=[]:=by simpa using MT
  go_wp2_with fail
  apply aI (acK (eu _ _ _ _ S J));intro R k3;have e3:=awG f;cases hok:okF f
  ·have HB:Hid (E=110):=ae VR;rw[hok]at e3;exact VQ
  ·have HB:Hid (E=0):=ae VR;rw[hok]at e3;exact VQ
 have HE:Hid (E=110):=ae (by
  rw[<- xu];exact Fy (by simp[bH,I,G,H]))
 have g1:(k==1)=false:=by simpa using I
 have g2:(k==2)=false:=by simpa using G
 have g3:(k==3)=false:=by simpa using H
 go_wp2
 go_ret
 exact⟨iq,bB⟩
