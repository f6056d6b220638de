/-
  Entries in plain Lean: what may be, what bytes they are, how a reader reads them. Conditions: none.
-/
import Derived.Test.YtfndfpdhlbmboaaGreatMa02
import Derived.Conc.LoneCalls
import Derived.Conc.LoneSelect
import Derived.Maps.OwnSet
import Derived.Carry
import Derived.Test.YtfndfpdhlbmboaaGreatMz
set_option maxRecDepth 100000
set_option maxHeartbeats 16000000
set_option linter.unusedVariables false
set_option linter.unusedSimpArgs false
namespace Go.Proofs.YtfndfpdhlbmboaaGreat
open Go Go.RowKit _root_.Go.Proofs.Tryz
structure aK where
 kind:Int
 br:Int
 life:Nat
 bV:Nat
 cl:Int
 sub:Nat
 f:List dt
 es:List (List cT)
 deriving DecidableEq
def dz:aK:=⟨0,0,0,0,0,0,[],[]⟩
def cD(x:aK):Prop:=cJ x.kind/\cJ x.br/\cJ x.cl/\x.life<18446744073709551616/\x.bV<18446744073709551616/\x.sub<18446744073709551616/\(∀t∈x.f,jh t)/\∀e∈x.es,∀a∈e,mX a
def qJ(b:Int):Bool:=decide (0<=b)&&decide (b<16)
def bK(x:aK):Bool :=
 qJ x.br&&decide (0<=x.cl)&&decide (x.cl<32) &&
  (if x.kind=1 then decide (x.sub=0)&&x.f.isEmpty&&decide (x.es.length<=8)&&x.es.all fB
   else if x.kind=3 then x.f.isEmpty&&x.es.isEmpty
   else if x.kind=2 then x.es.isEmpty&&okF x.f else false)
def qK(x:aK):Int:=if bK x then 0 else 110
def im(b:List UInt8):List UInt8:=az b.length++b
def lh(x:aK):List UInt8:=az (bf x.kind)++(az (bf x.br)++(az x.life++(az x.bV++(az (bf x.cl)++az x.sub))))
def eN(x:aK):List UInt8 :=
 lh x++(if x.kind=1 then az x.es.length++x.es.flatMap (λe=>im (jw e))else if x.kind=2 then im (ji x.f)else [])
def lR(n:Int):Aj (List cT):=λl wr=>match sJ (aL n l wr).1 with
 | none=>([],(aL n l wr).2.1,true)
 | some e=>(e,(aL n l wr).2)
def pQ(n:Int):Aj (List dt):=λl wr=>match qI (aL n l wr).1 with
 | none=>([],(aL n l wr).2.1,true)
 | some e=>(e,(aL n l wr).2)
theorem Ki n:DH (λe=>im (jw e)) (λe=>fB e=true/\(∀x∈e,mX x)/\((jw e).length:Int)<=n) (lR n) where
 fwd:=by rintro e⟨j,t,A⟩ rest;have C:=UC j t;have hb:=Ff n (jw e) af A rest;simp only[lR,im];rw[hb];simp only[auI e j t]
 back:=by
  intro l wr h
  simp only[lR]at h⊢
  cases hd:sJ (aL n l wr).1 with
  | none=>rw[hd]at h;cases h
  | some e => rw[hd]at h;obtain⟨u,_,y⟩:=Dk h;have B:=(ac2 hd).1;refine⟨?_,y⟩;simp only[im];rw[<- B];exact u
 len:=by intro l wr;have:=Dl n l wr;simp only[lR];split <;> simpa using this
theorem asJ{l}(h:okF l=true)(j:∀x∈l,jh x)(t:(ji l).length<18446744073709551616) n(hn:((ji l).length:Int)<=n) rest:pQ n (im (ji l)++rest) false=(l,rest,false):=by have hb:=Ff n (ji l) t hn rest;simp only[pQ,im];rw[hb];simp only[auz l h j]
theorem asK n l wr(h:(pQ n l wr).2.2=false):l=im (ji (pQ n l wr).1)++(pQ n l wr).2.1/\wr=false:=by
 simp only[pQ]at h⊢
 cases hd:qI (aL n l wr).1 with
 | none=>rw[hd]at h;cases h
 | some e =>
  grind [Dk,ac1,im]
def gD(l:List UInt8)(wr:Bool):(Nat×Nat×Nat×Nat×Nat×Nat)×List UInt8×Bool :=
 let u:=ax l wr
 let A:=ax u.2.1 u.2.2
 let j:=ax A.2.1 A.2.2
 let y:=ax j.2.1 j.2.2
 let t:=ax y.2.1 y.2.2
 let B:=ax t.2.1 t.2.2
 ((u.1,A.1,j.1,y.1,t.1,B.1),B.2)
theorem awl a b c d e f(t:a<18446744073709551616)(hb:b<18446744073709551616)(j:c<18446744073709551616)(u:d<18446744073709551616)(A:e<18446744073709551616)(y:f<18446744073709551616) rest :
 gD (az a++(az b++(az c++(az d++(az e++az f))))++rest) false=((a,b,c,d,e,f),rest,false):=by
 grind [gD,dY,qG]
theorem auK l wr(h:(gD l wr).2.2=false) :
 l=az (gD l wr).1.1++(az (gD l wr).1.2.1++(az (gD l wr).1.2.2.1++(az (gD l wr).1.2.2.2.1++(az (gD l wr).1.2.2.2.2.1++az (gD l wr).1.2.2.2.2.2))))++(gD l wr).2.1/\wr=false:=by
 grind [gD,tk,dY]
theorem ara{k n s}(t:-9223372036854775808<=n)(j:n<=9223372036854775807)(y:s.size<=40):(nB k n s).length<=67:=by have u:=cI (bf k) (fW _);have B:=cI (vu k n) (KE _ _ t j);have A:=cI s.size af;simp[nB];omega
theorem auL{t}(h:fY t=true)(j:jh t):(jI t).length<=101:=by
 obtain⟨u,_,_,h8,hn⟩:=Fa h;have A:=cI t.1.size af;have C:=cI (bf t.2.1) (fW _);have B:t.1.data.size<=16:=u;unfold jI;simp only[cF];split
 ·grind
 ·rename_i e;have y:(nB t.2.2.1 t.2.2.2.1 t.2.2.2.2).length<=67:=ara j.2.2.1 j.2.2.2 (Hx (hn aG)).2;grind
def nZ(a:Nat×Nat×Nat×Nat×Nat×Nat):aK:=⟨(min a.1 4:Nat),(min a.2.1 16:Nat),a.2.2.1,a.2.2.2.1,(min a.2.2.2.2.1 32:Nat),a.2.2.2.2.2,[],[]⟩
def pR(n:Int):Aj aK:=λl wr =>
 if min (gD l wr).1.1 4=1 then
  ({ nZ (gD l wr).1 with es:=(cU (lR n) (min (ax (gD l wr).2.1 (gD l wr).2.2).1 9) (ax (gD l wr).2.1 (gD l wr).2.2).2.1 (ax (gD l wr).2.1 (gD l wr).2.2).2.2).1 },
   (cU (lR n) (min (ax (gD l wr).2.1 (gD l wr).2.2).1 9) (ax (gD l wr).2.1 (gD l wr).2.2).2.1 (ax (gD l wr).2.1 (gD l wr).2.2).2.2).2)
 else if min (gD l wr).1.1 4=2 then ({ nZ (gD l wr).1 with f:=(pQ n (gD l wr).2.1 (gD l wr).2.2).1 },(pQ n (gD l wr).2.1 (gD l wr).2.2).2)
 else (nZ (gD l wr).1,(gD l wr).2)
theorem Dc{x}(h:bK x=true):(0<=x.br/\x.br<16)/\(0<=x.cl/\x.cl<32) /\
 ((x.kind=1/\x.sub=0/\x.f=[]/\x.es.length<=8/\∀e∈x.es,fB e=true)∨(x.kind=3/\x.f=[]/\x.es=[])∨(x.kind=2/\x.es=[]/\okF x.f=true)):=by
 simp only[bK,qJ,dE,decide_eq_true_eq]at h
 obtain⟨⟨⟨⟨j,t⟩,y⟩,u⟩,A⟩:=h
 refine⟨⟨j,t⟩,⟨y,u⟩,?_⟩
 split at A
 all_goals grind
theorem tj k(j:0<=k)(t:k<100):bf k=k.toNat:=by grind [bf]
theorem auM n x(h:bK x=true)(J:cD x)(u:∀e∈x.es,((jw e).length:Int)<=n)(H:((ji x.f).length:Int)<=n)(G:(ji x.f).length<18446744073709551616) rest :
 pR n (eN x++rest) false=(x,rest,false):=by
 obtain⟨⟨A,L⟩,⟨E,F⟩,hk⟩:=Dc h
 obtain⟨_,_,_,B,D,C,I,t⟩:=J
 obtain⟨kind,br,life,bV,cl,sub,f,es⟩:=x
 simp only at A L E F hk B D C I t u H G
 have U:=tj br A af
 have N:=tj cl E af
 have h6:∀R,gD (lh ⟨kind,br,life,bV,cl,sub,f,es⟩++R) false=((bf kind,bf br,life,bV,bf cl,sub),R,false):=λR =>
  awl (bf kind) (bf br) life bV (bf cl) sub (fW _) (fW _) B D (fW _) C R
 have T:((min (bf br) 16:Nat):Int)=br:=af
 have S:((min (bf cl) 32:Nat):Int)=cl:=af
 rcases hk with ⟨rfl,rfl,rfl,h8,M⟩|⟨rfl,rfl,rfl⟩|⟨rfl,rfl,Q⟩
 ·have e:eN ⟨1,br,life,bV,cl,0,[],es⟩++rest=lh ⟨1,br,life,bV,cl,0,[],es⟩++(az es.length++(es.flatMap (λe=>im (jw e))++rest)):=by simp[eN,dY]
  have O:=aeR (Ki n) es (λe j=>⟨M e j,t e j,u e j⟩) rest es.length (aC _);have y:bf 1=1:=rfl;unfold pR;grind [qG,nZ]
 ·have e:eN ⟨3,br,life,bV,cl,sub,[],[]⟩++rest=lh ⟨3,br,life,bV,cl,sub,[],[]⟩++rest:=by simp[eN]
  have y:bf 3=3:=rfl;unfold pR;grind [nZ]
 ·have e:eN ⟨2,br,life,bV,cl,sub,f,[]⟩++rest=lh ⟨2,br,life,bV,cl,sub,f,[]⟩++(im (ji f)++rest):=by grind [eN]
  have y:bf 2=2:=rfl;unfold pR;grind [asJ,nZ]
theorem Vh{x}(h:x.kind=1):eN x=lh x++(az x.es.length++x.es.flatMap λe=>im (jw e)):=by grind [eN]
theorem Vi{x}(h:x.kind=2):eN x=lh x++im (ji x.f):=by grind [eN,lh,im,ji]
theorem ae6{x}(j:¬x.kind=1)(t:¬x.kind=2):eN x=lh x:=by grind [eN,lh]
theorem asL n l wr(h:(pR n l wr).2.2=false)(u:bK (pR n l wr).1=true):l=eN (pR n l wr).1++(pR n l wr).2.1/\wr=false:=by
 have h6:=auK l wr;unfold pR at h u⊢;generalize gD l wr=r at *;obtain⟨⟨a,b,c,d,e,f⟩,t,j⟩:=r;simp only at h u h6⊢;have D:∀x:aK,x.kind=(min a 4:Nat)->x.br=(min b 16:Nat)->x.cl=(min e 32:Nat)->x.life=c->x.bV=d->x.sub=f->bK x=true ->
  lh x=az a++(az b++(az c++(az d++(az e++az f)))):=by
  intro x U W V M Q h6 J
  obtain⟨⟨X,Y⟩,⟨T,R⟩,hk⟩:=Dc J
  have L:bf x.kind=a:=by
   grind [tj]
  have N:bf x.br=b:=by grind [tj]
  have I:bf x.cl=e:=by grind [tj]
  unfold lh
  rw[L,N,I,M,Q,h6]
 split at h
 ·rename_i E;rw[if_pos E]at u⊢;have h8:(cU (lR n) (min (ax t j).1 9) (ax t j).2.1 (ax t j).2.2).1.length=min (ax t j).1 9:=(KR (Ki n) _ _ _).2;obtain⟨B,F⟩:=adR (Ki n) h;obtain⟨G,O⟩:=tk F;obtain⟨y,w⟩:=h6 O;refine⟨?_,w⟩;have A:=D _ rfl rfl rfl rfl rfl rfl u;obtain⟨-,-,hk⟩:=Dc u;have S:(cU (lR n) (min (ax t j).1 9) (ax t j).2.1 (ax t j).2.2).1.length<=8:=by
   rcases hk with hk|hk|hk
   ·exact hk.2.2.2.1
   ·have:=hk.1;simp only[nZ]at this;omega
   ·have:=hk.1;simp only[nZ]at this;omega
  have hm:min (ax t j).1 9=(ax t j).1:=af;rw[Vh Pw,A];simp only;rw[h8,hm];rw[hm]at B;generalize az a++(az b++(az c++(az d++(az e++az f))))=H at y⊢;rw[dY H,dY (az (ax t j).1),<- B,<- G];exact y
 ·rename_i E;rw[if_neg E]at u⊢;split at h
  ·rename_i C;rw[if_pos C]at u⊢;obtain⟨B,F⟩:=asK n t j h;obtain⟨y,w⟩:=h6 F;refine⟨?_,w⟩;have A:=D _ rfl rfl rfl rfl rfl rfl u;rw[Vi Pw,A];simp only;generalize az a++(az b++(az c++(az d++(az e++az f))))=H at y⊢;rw[dY H,<- B];exact y
  ·rename_i C;rw[if_neg C]at u⊢;obtain⟨y,w⟩:=h6 h;refine⟨?_,w⟩;have A:=D _ rfl rfl rfl rfl rfl rfl u;rw[ae6 Pw Pw,A];exact y
def iC(b:List UInt8):Option aK:=if !(pR b.length b false).2.2&&(pR b.length b false).2.1.isEmpty&&bK (pR b.length b false).1 then some (pR b.length b false).1 else none
def lJ(b:List UInt8):aK:=(iC b).getD dz
def xY(b:List UInt8):Int:=if (iC b).isSome then 0 else 110
theorem T1{b x}(h:iC b=some x):b=eN x/\bK x=true:=by
 unfold iC at h;split at h
 ·rename_i t;injection h with h;simp only[dE,Bool.not_eq_true',List.isEmpty_iff]at t;obtain⟨⟨u,y⟩,j⟩:=t;have hb:=(asL _ b false u j).1;rw[y,List.append_nil,h]at hb;rw[h]at j;exact⟨hb,j⟩
 ·cases h
theorem auN x(hk:x.kind=1) e(j:e∈x.es):(jw e).length<=(eN x).length:=by
 have u:(im (jw e)).length<=(x.es.flatMap λe=>im (jw e)).length:=by
  obtain⟨s,t,y⟩:=List.append_of_mem j
  grind
 unfold eN
 grind [jw,eN,im]
theorem ac3 x(h:bK x=true)(u:cD x):iC (eN x)=some x:=by
 obtain⟨-,-,hk⟩:=Dc h
 have j:(ji x.f).length<18446744073709551616/\((ji x.f).length:Int)<=((eN x).length:Int):=by
  have H:1<=(az (bf x.kind)).length:=by simp[az]
  have hp:1<=(lh x).length:=by grind [lh]
  rcases hk with ⟨_,_,C,_⟩|⟨_,C,_⟩|⟨hk,_,D⟩
  ·grind [bK,cD,iC,eN,ji,az,fL,be]
  ·grind [bK,cD,iC,eN,ji,az,fL,be]
  ·refine⟨?_,?_⟩
   ·have h8:=De D;have F:=u.2.2.2.2.2.2.1;have E:=cI x.f.length af;have G:(x.f.flatMap jI).length<=101*x.f.length:=by
     have:∀l:List dt,(∀t∈l,fY t=true/\jh t)->(l.flatMap jI).length<=101*l.length:=ae7
     grind
    unfold ji;rw[cF];omega
   ·grind [bK,cD,iC,eN,im]
 have B:∀e∈x.es,((jw e).length:Int)<=((eN x).length:Int):=by
  intro e I;rcases hk with ⟨hk,_⟩|⟨_,_,hn⟩|⟨_,hn,_⟩
  ·simp_all [auN]
  all_goals grind
 have A:=auM (eN x).length x h u B j.2 j.1 []
 rw[List.append_nil]at A
 unfold iC
 grind
theorem ac4{l}(h:okF l=true)(j:∀x∈l,jh x):(ji l).length<=900:=by
 have h8:=De h;have A:=cI l.length af;have u:∀l:List dt,(∀t∈l,fY t=true/\jh t)->(l.flatMap jI).length<=101*l.length:=ae7;have h6:=u l λt ht=>⟨h8.2 t ht,j t ht⟩
 unfold ji;rw[cF];omega
theorem acq(es:List (List cT))(h:∀e∈es,fB e=true/\∀a∈e,mX a):(es.flatMap λe=>im (jw e)).length<=2009*es.length:=by
 induction es with
 | nil=>simp
 | cons y l j =>
  have u:=j λt B=>h t aG
  obtain⟨A,C⟩:=h y aj
  grind [UC,cI,jw,im,az,cF,eQ]
theorem Ks{x}(h:bK x=true)(u:cD x):(eN x).length<=20000:=by
 obtain⟨_,_,hk⟩:=Dc h;obtain⟨_,_,_,t,j,y,D,E⟩:=u;have F:=cI (bf x.kind) (fW _);have L:=cI (bf x.br) (fW _);have B:=cI x.life t;have A:=cI x.bV j;have G:=cI (bf x.cl) (fW _);have I:=cI x.sub y;have J:(lh x).length<=54:=by grind [lh]
 rcases hk with ⟨hk,_,_,h8,C⟩|⟨hk,_,_⟩|⟨hk,_,H⟩
 ·grind [acq,cI,Vh,cF]
 ·grind [bK,cD,eN]
 ·grind [ac4,cI,ji,Vi,cF,im]
structure Rec where
 kind:Int
 n:Nat
 e:aK
 br:Int
 life:Nat
 bV:Nat
 deriving DecidableEq
def IP:Rec:=⟨0,0,dz,0,0,0⟩
def jT(x:Rec):Prop:=cJ x.kind/\x.n<18446744073709551616/\cD x.e/\cJ x.br/\x.life<18446744073709551616/\x.bV<18446744073709551616
def wY(x:Rec):Bool:=decide (x.br=0)&&decide (x.life=0)&&decide (x.bV=0)
def eo(x:Rec):Bool :=
 if x.kind=1 then decide (x.e=dz)&&wY x
 else if x.kind=2 then bK x.e&&wY x
 else if x.kind=3 then decide (x.n=0)&&bK x.e&&wY x
 else if x.kind=4∨x.kind=5 then qJ x.br&&decide (x.n=0)&&decide (x.e=dz)else false
def bM(x:Rec):List UInt8 :=
 az (bf x.kind)++(az x.n++(if x.kind=2∨x.kind=3 then im (eN x.e)else if x.kind=4∨x.kind=5 then az (bf x.br)++(az x.life++az x.bV)else []))
theorem zn{x}(h:eo x=true):(x.kind=1/\x.e=dz/\x.br=0/\x.life=0/\x.bV=0)∨((x.kind=2∨x.kind=3/\x.n=0)/\bK x.e=true/\x.br=0/\x.life=0/\x.bV=0) ∨
 ((x.kind=4∨x.kind=5)/\(0<=x.br/\x.br<16)/\x.n=0/\x.e=dz):=by
 unfold eo wY qJ at h
 split at h
 ·grind
 ·split at h
  ·grind
  ·split at h;all_goals grind
def mP(m:Int):Aj Rec:=λl wr =>
 let a:=ax l wr
 let b:=ax a.2.1 a.2.2
 let k:=min a.1 6
 if k=2∨k=3 then
  match iC (aL m b.2.1 b.2.2).1 with
  | none=>(IP,(aL m b.2.1 b.2.2).2.1,true)
  | some e=>(⟨(k:Nat),b.1,e,0,0,0⟩,(aL m b.2.1 b.2.2).2)
 else if k=4∨k=5 then
  let c:=ax b.2.1 b.2.2
  let d:=ax c.2.1 c.2.2
  let e:=ax d.2.1 d.2.2
  (⟨(k:Nat),b.1,dz,(min c.1 16:Nat),d.1,e.1⟩,e.2)
 else (⟨(k:Nat),b.1,dz,0,0,0⟩,b.2)
theorem ac5 m x(h:eo x=true)(F:jT x)(hm:((eN x.e).length:Int)<=m)(B:(eN x.e).length<18446744073709551616) rest:mP m (bM x++rest) false=(x,rest,false):=by
 obtain⟨kind,n,e,br,life,bV⟩:=x;obtain⟨-,hn,A,-,C,D⟩:=F;simp only at hn A C D hm B;rcases zn h with ⟨hk,t,hb,j,u⟩|⟨hk,t,hb,j,u⟩|⟨hk,hb,j,t⟩
 ·simp only at hk t hb j u;subst hk t hb j u;have y:bM ⟨1,n,dz,0,0,0⟩++rest=az 1++(az n++rest):=by
   grind [bM,bf,dY]
  simp only[mP];rw[y,qG 1 ay];simp only[qG,hn];simp
 ·simp only at hk t hb j u;subst hb j u;have H:kind=2∨kind=3:=af;have G:=tj kind af af;have y:bM ⟨kind,n,e,0,0,0⟩++rest=az (bf kind)++(az n++(az (eN e).length++eN e++rest)):=by
   grind [bM,im,dY]
  have E:=Ff m (eN e) B hm rest;simp only[mP];rw[y,qG _ (fW _)];simp only[qG,hn];rw[if_pos af,E];simp only[ac3 e t A];grind
 ·simp only at hk hb j t;subst j t;have G:=tj kind af af;have I:=tj br hb.1 af;have y:bM ⟨kind,0,dz,br,life,bV⟩++rest=az (bf kind)++(az 0++(az (bf br)++(az life++(az bV++rest)))):=by
   grind [bM,dY]
  simp only[mP];rw[y,qG _ (fW _)];simp only[qG,C,D,fW,show (0:Nat)<18446744073709551616 by decide];grind
theorem arb m l wr(h:(mP m l wr).2.2=false)(j:eo (mP m l wr).1=true):l=bM (mP m l wr).1++(mP m l wr).2.1/\wr=false:=by
 have C:=@tk l wr;unfold mP at h j⊢;simp only at h j⊢;generalize ax l wr=a at *;obtain⟨a,t,y⟩:=a;simp only at h j C⊢;have hb:=@tk t y;generalize ax t y=b at *;obtain⟨b,u,A⟩:=b;simp only at h j hb⊢;split at h
 ·rename_i hk;rw[if_pos hk]at j⊢;have B:=@Dk m u A;generalize aL m u A=r at *;obtain⟨bs,D,E⟩:=r;simp only at h j B⊢;cases hd:iC bs with
  | none=>rw[hd]at h;cases h
  | some e =>
   grind [T1,bf,tj,bM,im,dY,az]
 ·grind [tk,ax,zn,bf,tj,bM,dY]
def mN(b:List UInt8):Option Rec:=if !(mP b.length b false).2.2&&(mP b.length b false).2.1.isEmpty&&eo (mP b.length b false).1 then some (mP b.length b false).1 else none
def tv(b:List UInt8):Rec:=(mN b).getD IP
def tz(b:List UInt8):Int:=if (mN b).isSome then 0 else 110
theorem apX{b x}(h:mN b=some x):b=bM x/\eo x=true:=by
 unfold mN at h;split at h
 ·rename_i j;injection h with h;simp only[dE,Bool.not_eq_true',List.isEmpty_iff]at j;obtain⟨⟨t,y⟩,u⟩:=j;grind [arb]
 ·cases h
theorem ae8:(eN dz).length=6:=by simp[eN,lh,dz,az,bf,fL,be]
theorem arc x(h:eo x=true)(A:jT x):mN (bM x)=some x:=by
 have y:(eN x.e).length<18446744073709551616/\((eN x.e).length:Int)<=30000/\((x.kind=2∨x.kind=3)->((eN x.e).length:Int)<=((bM x).length:Int)):=by
  have C:(x.kind=2∨x.kind=3)->((eN x.e).length:Int)<=((bM x).length:Int):=by
   grind [eo,jT,mN,bM,im]
  rcases zn h with ⟨_,j,_⟩|⟨_,j,_⟩|⟨_,_,_,j⟩
  ·simp_all [ae8]
  ·have:=Ks j A.2.2.1;exact⟨af,af,C⟩
  ·simp_all [ae8]
 have t:mP (bM x).length (bM x++[]) false=(x,[],false):=by
  by_cases hk:x.kind=2∨x.kind=3
  ·grind [ac5]
  ·have B:=ac5 30000 x h A y.2.1 y.1 [];rw[<- B];have hn:(ax (bM x++[]) false).1=bf x.kind:=by unfold bM;rw[dY,qG _ (fW _)]
   have u:¬(min (ax (bM x++[]) false).1 6=2∨min (ax (bM x++[]) false).1 6=3):=by
    rw[hn];rcases zn h with ⟨g,_⟩|⟨g,_⟩|⟨g,_⟩
    ·rw[tj _ af af];omega
    ·omega
    ·rw[tj _ af af];omega
   unfold mP;simp only;rw[if_neg u,if_neg u]
 rw[List.append_nil]at t;unfold mN;rw[t];simp[h]
abbrev aR:=Int×Nat×Nat
abbrev bU(a:aR):Value:=.agg #[.int .i64 a.1,.int .u64 (a.2.1:Int),.int .u64 (a.2.2:Int)]
section
open Go Go.RowKit Go.ChangeShapes Go.WideShapes Go.ChangeAt
def cG:dW (List cT) where
 size:=1
 rel l cs w:=∃v,cs=[v]/\iU l v w
 len:=by rintro _ _ _⟨v,rfl,_⟩;rfl
 one:=by rintro _ _ _⟨v,rfl,A,c,rfl,_⟩ u j;simp at j;subst j;rfl
 st:=by rintro _ _ _ _⟨v,rfl,h⟩ k;exact⟨v,rfl,pE _ _ _ _ h k⟩
abbrev eY(a:aR):List Value:=[.int .i64 a.1,.int .u64 (a.2.1:Int),.int .u64 (a.2.2:Int)]
def eu(a:aR):Prop:=cJ a.1/\a.2.1<18446744073709551616/\a.2.2<18446744073709551616
def b5:dW aR where
 size:=3
 rel a cs _:=cs=eY a
 len:=by rintro _ _ _ rfl;rfl
 one:=by rintro _ _ _ rfl u j;simp at j;rcases j with rfl|rfl|rfl <;> rfl
 st:=by rintro _ _ _ _ h _;exact h
abbrev XU(x:aK)(vf ve:Value):List Value:=[.int .i64 x.kind,.int .i64 x.br,.int .u64 (x.life:Int),.int .u64 (x.bV:Int),.int .i64 x.cl,.int .u64 (x.sub:Int),vf,ve]
abbrev aD(x:aK)(vf ve:Value):Array Value:=#[.int .i64 x.kind,.int .i64 x.br,.int .u64 (x.life:Int),.int .u64 (x.bV:Int),.int .i64 x.cl,.int .u64 (x.sub:Int),vf,ve]
theorem b6{l v w}(h:fu l v w):∃A c,v=.slice A l.length c:=by
 grind [fu]
theorem xR{l v w}(h:iU l v w):∃A c,v=.slice A l.length c:=by
 grind [iU]
theorem aw{α S}{l:List α}{v w}(h:aq S l v w):∃A c,v=.slice A l.length c:=by
 grind [aq]
def aU:dW aK where
 size:=8
 rel x cs w:=∃vf j,cs=XU x vf j/\fu x.f vf w/\aq cG x.es j w
 len:=by rintro _ _ _⟨vf,j,rfl,_⟩;rfl
 one:=by rintro x _ _⟨vf,j,rfl,⟨A,c,rfl,_⟩,⟨D,d,rfl,_⟩⟩ u hu;exact ae9
 st:=by rintro _ _ _ _⟨vf,j,rfl,t,y⟩ k;exact⟨vf,j,rfl,eH _ _ _ _ t k,bo y k⟩
def cV(x:aK)(v:Value)(w:World):Prop:=∃vf j,v=.agg (aD x vf j)/\fu x.f vf w/\aq cG x.es j w
theorem Lj{x v w w'}(h:cV x v w)(k:K w w'):cV x v w':=afa
theorem axP{x v w}(h:cV x v w):∀W,K w W->cV x v W:=λ_ k=>Lj h k
theorem auO w:cV dz (.agg #[.int .i64 0,.int .i64 0,.int .u64 0,.int .u64 0,.int .i64 0,.int .u64 0,.slice none 0 0,.slice none 0 0]) w :=
 ⟨_,_,rfl,⟨none,0,rfl,Reads.nil _ _ _ _⟩,gh _ _⟩
abbrev eS(x:Rec)(vf ve:Value):Array Value:=#[.int .i64 x.kind,.int .u64 (x.n:Int),.int .i64 x.e.kind,.int .i64 x.e.br,.int .u64 (x.e.life:Int),.int .u64 (x.e.bV:Int),.int .i64 x.e.cl,.int .u64 (x.e.sub:Int),vf,ve,.int .i64 x.br,.int .u64 (x.life:Int),.int .u64 (x.bV:Int)]
def pk(x:Rec)(v:Value)(w:World):Prop:=∃vf j,v=.agg (eS x vf j)/\fu x.e.f vf w/\aq cG x.e.es j w
theorem QB{x v w w'}(h:pk x v w)(k:K w w'):pk x v w':=afa
theorem axQ{x v w}(h:pk x v w):∀W,K w W->pk x v W:=λ_ k=>QB h k
def vC:dW Rec where
 size:=13
 rel x cs w:=∃vf j,cs=(eS x vf j).toList/\fu x.e.f vf w/\aq cG x.e.es j w
 len:=by rintro _ _ _⟨vf,j,rfl,_⟩;rfl
 one:=by rintro x _ _⟨vf,j,rfl,⟨A,c,rfl,_⟩,⟨D,d,rfl,_⟩⟩ u t;simp at t;rcases t with rfl|rfl|rfl|rfl|rfl|rfl|rfl|rfl|rfl|rfl|rfl|rfl|rfl <;> rfl
 st:=by rintro _ _ _ _⟨vf,j,rfl,y,B⟩ k;exact⟨vf,j,rfl,eH _ _ _ _ y k,bo B k⟩
section
variable {H:Type} {enc:TypeId×Value->H} {w:World} {base:Nat} {r:Reach} {b0:Nat} {spare:Nat->Bool} {held:Bool} {v:Value} {d:DataW H} {p:List MemPlace} {α:Type}
theorem asM{t cs x}(j:DataW.trod enc prog w base spare held t 3 cs=some x):∃n,cs=[.int .i64 n]/\cJ n:=by obtain⟨a,y,_,u⟩:=DataW.trod_int underlying3 j;have:=bounds_i64 u;exact⟨a,y,mh⟩
theorem ac6{t cs x}(j:DataW.trod enc prog w base spare held t 24 cs=some x):∃n:Nat,cs=[.int .u64 n]/\n<18446744073709551616:=by obtain⟨a,y,_,u⟩:=DataW.trod_int underlying24 j;have:=bounds_u64 u;exact⟨a.toNat,aG,af⟩
theorem auP{I cs x}(h:DataW.trod enc prog w base spare held I 26 cs=some x):∃y:aR,cs=eY y/\eu y:=by
 obtain⟨xs,n,_,_,B,J,A⟩:=DataW.trod_struct underlying26 h
 have H:prog.cellsOf 26=3:=fk
 rw[H]at B
 have G:prog.cellsOf 3=1:=fk
 have L:prog.cellsOf 24=1:=fk
 have M:xs.length=3:=J
 match cs,B with
 | [c0,c1,c2],_ => have u:=A 0 _ rfl;have j:=A 1 _ rfl;have t:=A 2 _ rfl;simp[G,L]at u j t;rw[List.getElem?_eq_getElem af]at u j t;obtain⟨a,C,F⟩:=asM u;obtain⟨b,E,wb⟩:=ac6 j;obtain⟨c,D,wc⟩:=ac6 t;simp at C E D;subst C E D;exact⟨(a,b,c),rfl,F,wb,wc⟩
def ajx(_:World)(v:Value):Prop:=∃a:aR,v=bU a/\eu a
theorem auQ(t:Value.okWide prog w r b0 26 v)(h:DataW.Trod enc prog w base spare held 26 v d p):ajx w v:=by
 obtain⟨cs,rfl,B⟩:=okWide_struct underlying26 t
 obtain⟨C,u⟩:=h
 obtain⟨y,A,j⟩:=auP u
 refine⟨y,?_,j⟩
 have:cs.toList=eY y:=mh
 obtain⟨l⟩:=cs
 grind
end
end
def nW:List Value->Nat->List Value->List Value
 | xs,_,[]=>xs
 | xs,q,u :: us=>nW (xs.set q u) (q+1) us
def dV:World->Nat->Nat->List Value->World
 | w,_,_,[]=>w
 | w,g,q,u :: us=>dV (w.setCell ⟨g,q,none⟩ u) g (q+1) us
theorem T2:∀(us xs:List Value) (q:Nat),q+us.length=xs.length->nW xs q us=xs.take q++us
 | [],xs,q,h=>by simp only[nW,List.append_nil];rw[fM (by simp at h;omega)]
 | u :: us,xs,q,h=>by
  simp only[eQ]at h;simp only[nW];rw[T2 us (xs.set q u) (q+1) (by rw[List.length_set];omega),List.take_add_one];have:(xs.set q u)[q]?=some u:=by rw[List.getElem?_set_self (by omega)]
  rw[this,List.take_set_of_le (aC _)];simp
theorem adW{g e}:∀(us:List Value) (cs:Array Value) (q:Nat) (w:World),ah w g e cs->ah (dV w g q us) g e (nW cs.toList q us).toArray
 | [],cs,q,w,h=>by simpa [dV,nW]using h
 | u :: us,cs,q,w,h=>by have:=adW us (cs.setIfInBounds q u) (q+1) _ (h.aM q u);simpa [dV,nW,Array.toList_setIfInBounds]using this
theorem Fq{w g e cs us}(h:ah w g e cs)(j:us.length=cs.size):ah (dV w g 0 us) g e us.toArray:=by have:=adW us cs 0 w h;rwa [T2 us cs.toList 0 aG,XH,aO]at this
theorem aV.floor{α S}{l:List α}{v w base lo j e}(h:aV base lo e S l v w)(A:j<=lo):aV base j e S l v w:=by obtain⟨css,t,y,B⟩:=h;exact⟨css,t,y,λw' u=>B w' (u.more A (λ_ _ h=>h))⟩
theorem fH.up{w w' B v l}(h:fH w B v l)(u:aI B none w w'):fH w' B v l:=by refine⟨h.1,h.2.imp id ?_⟩;exact Vj
theorem UD(l:List cT):∀u∈l.flatMap mV,u.oneCell'=true:=by
 intro u j
 obtain⟨x,_,t⟩:=List.mem_flatMap.1 j
 grind [adQ]
theorem Ht(l:List dt):∀u∈l.flatMap fF,u.oneCell'=true:=by intro u t;obtain⟨x,_,j⟩:=List.mem_flatMap.1 t;simp at j;rcases j with rfl|rfl|rfl|rfl|rfl <;> rfl
theorem ed{α S}{l:List α}{A w}(h:yI S l A w) i(C:i<l.length)(u:0<S.size) :
 ∃b t cs,A=some ⟨b,t,none⟩/\cs.length=S.size/\(∀W,K w W->S.rel l[i] cs W)/\(∀W,K w W->W.cell? ⟨b,t+i*S.size,none⟩=cs[0]?)/\∀W,K w W->∀j,j<S.size->W.cell? ⟨b,t+i*S.size+j,none⟩=cs[j]?:=by
 obtain⟨b,t,cs,e,hb,E,y,B⟩:=Iy h i C u
 have key:∀W,K w W->∀j,j<S.size->W.cell? ⟨b,t+i*S.size+j,none⟩=cs[j]?:=λW k j D=>(k.cell (p:=⟨b,t+i*S.size+j,none⟩) hb).trans (B j D)
 exact⟨b,t,cs,e,E,λW k=>S.st y k,λW k=>key W k 0 u,key⟩
theorem Vk{w:World}{base g n cap q e size xs}(h:w.ownsRow base e size (.slice (some ⟨g,0,none⟩) n cap) n xs)(_:q<xs.length) u :
 (w.setCell ⟨g,q,none⟩ u).ownsRow base e size (.slice (some ⟨g,0,none⟩) n cap) n (xs.set q u):=by
 refine⟨by simpa using h.1,.inr ?_⟩
 rcases h.2 with ⟨y,_⟩|⟨G,E,cur,t,A,D,B,j,F,C⟩
 ·cases y
 ·injection t with e1 _ e3;injection e1 with e1;injection e1 with e1;subst e1 e3;refine⟨g,cap,cur.setIfInBounds q u,rfl,A,(show ah w g e cur from D).aM q u,B,j,aG,?_⟩;rw[Array.toList_setIfInBounds,<- C,List.take_set]
theorem Fb{w:World}{base g n cap e size xs}(h:w.ownsRow base e size (.slice (some ⟨g,0,none⟩) n cap) n xs):(∀q,q<xs.length->w.cell? ⟨g,q,none⟩=xs[q]?)/\∀q,w.frozen? ⟨g,q,none⟩=false:=by
 rcases h.2 with ⟨u,_⟩|⟨E,C,cur,t,B,j,F,A,D,y⟩
 ·cases u
 ·injection t with e1 _ e3;injection e1 with e1;injection e1 with e1;subst e1 e3;refine⟨λq G=>?_,λq=>(show ah w g e cur from j).frozen q⟩;rw[(show ah w g e cur from j).cell q,<- y];grind
theorem OC{α:Type} n u:∀(css:List (List α)),(∀cs∈css,cs.length=n)->∀(k j:Nat) (hk:k<css.length),j<n->css.flatten.set (k*n+j) u=(css.set k ((css[k]).set j u)).flatten
 | [],_,k,j,hk,_=>by simp at hk
 | c :: css,h,0,j,hk,hj=>by have hc:=h c aj;simp only[Nat.zero_mul,mi,List.flatten_cons,qL,List.getElem_cons_zero];rw[List.set_append,if_pos af]
 | c :: css,h,k+1,j,hk,hj=>by have hc:=h c aj;have t:=OC n u css (λx hx=>h x Dn) k j sE hj;simp only[List.flatten_cons,qM,List.getElem_cons_succ];rw[List.set_append,if_neg Po,<- t];congr 2;rw[hc,Nat.succ_mul];omega
theorem Each.set{α S l css w}(h:Each S l css w) k{x:α}{cs}(u:S.rel x cs w):Each S (l.set k x) (css.set k cs) w:=by
 refine⟨KT,λi t y=>?_⟩;by_cases j:k=i
 ·grind
 ·rw[List.getElem_set_ne j,List.getElem_set_ne j];exact h.2 i aG aG
structure ag(X:Nat->Prop)(w w':World):Prop where
 os:w'.os=w.os
 tape:w'.tape=w.tape
 output:w'.output=w.output
 size:w.heap.size<=w'.heap.size
 block:∀k,k<w.heap.size->¬X k->w'.heap[k]?=w.heap[k]?
section
variable {X:Nat->Prop} {a b c w w':World}
theorem ag.rf X w:ag X w w:=⟨rfl,rfl,rfl,aC _,λ_ _ _=>rfl⟩
theorem ag.tr(h:ag X a b)(k:ag X b c):ag X a c :=
 ⟨k.os.trans h.os,k.tape.trans h.tape,k.output.trans h.output,bn h.size k.size,λi j t=>(k.block i (bz j h.size) t).trans (h.block i j t)⟩
theorem ag.aT(h:K w w') X:ag X w w':=⟨h.os,h.tape,h.output,h.size,λi j _=>h.block i j⟩
theorem ag.eM{row}(h:w.grownBy w' row)(u:∀g,row=some g->X g):ag X w w' :=
 ⟨h.os,h.tape,h.output,h.size,λi j t=>h.block i j (λe=>t (u i e.symm))⟩
theorem ag.qZ{lo row}(h:ag X w w')(y:∀k,lo<=k->k<w.heap.size->some k≠row->¬X k):aI lo row w w' :=
 ⟨h.os,h.tape,h.output,h.size,λi t j u=>h.block i j (y i t j u)⟩
theorem aI.upN{lo row}(h:aI lo row w w')(t:∀k,k<lo∨some k=row->X k):ag X w w' :=
 ⟨h.os,h.tape,h.output,h.size,λi u j=>h.block i (Nat.le_of_not_lt λy=>j (t i (.inl y))) u (λe=>j (t i (.inr e)))⟩
theorem Fg{base e size n v xs}(h:w.ownsRow base e size v n xs)(k:∀g,base<=g->g<w.heap.size->v.ownBlock=some g->w'.heap[g]?=w.heap[g]?):w'.ownsRow base e size v n xs:=by refine⟨h.1,h.2.imp id ?_⟩;rintro ⟨g,cap,cur,rfl,t,j,u⟩;exact⟨g,cap,cur,rfl,t,(k g t (Array.getElem?_eq_some_iff.1 j).1 rfl).trans j,u⟩
theorem lI{base e size n v xs}(h:w.ownsRow base e size v n xs){g}(hg:v.ownBlock=some g):∃cur,ah w g e cur:=by
 rcases h.2 with ⟨rfl,_⟩|⟨t,cap,cur,rfl,_,j,_⟩
 ·cases hg
 ·injection hg with hg;subst hg;exact⟨cur,j⟩
theorem ah.gM{g t j cs u}(h:ah w g t cs)(y:ah w g j u):t=j:=by
 grind [ah]
theorem OI{α S}{l:List α}{v base e css}(j:w.ownsRow base e S.size v l.length css.flatten)(u:Each S l css w):aq S l v w:=by
 have t:=j;rcases j.2 with ⟨rfl,y⟩|⟨g,cap,cur,rfl,_,_,hn,_⟩
 ·grind [List.eq_nil_of_length_eq_zero,gh]
 ·exact⟨_,_,rfl,⟨css,u,Reads.uH t⟩,hn⟩
theorem O7{base g n cap:Nat}{e:TypeId}{size:Nat}:∀(us xs:List Value) (q:Nat) (w:World),w.ownsRow base e size (.slice (some ⟨g,0,none⟩) n cap) n xs->q+us.length<=xs.length ->
 (dV w g q us).ownsRow base e size (.slice (some ⟨g,0,none⟩) n cap) n (nW xs q us)
 | [],_,_,_,h,_=>h
 | u :: us,xs,q,w,h,hl=>by simp only[dV,nW];simp only[eQ]at hl;exact O7 us _ _ _ (Vk h af u) aY
theorem Ot n:∀(us:List Value) (css:List (List Value)),(∀cs∈css,cs.length=n)->∀(k j:Nat) (hk:k<css.length),j+us.length<=n->nW css.flatten (k*n+j) us=(css.set k (nW (css[k]) j us)).flatten
 | [],css,h,k,j,hk,hj=>by simp[nW]
 | u :: us,css,h,k,j,hk,hj=>by
  simp only[eQ]at hj;simp only[nW];rw[OC n u css h k j hk af];have B:∀cs∈css.set k ((css[k]).set j u),cs.length=n:=by
   intro cs y;rcases List.mem_or_eq_of_mem_set y with t|rfl
   ·exact h cs t
   ·simp;exact h _ (bS hk)
  have A:=Ot n us (css.set k ((css[k]).set j u)) B k (j+1) sE af;rw[show k*n+j+1=k*n+(j+1) by omega,A];simp
theorem ag.sets{g:Nat}(j:X g):∀(us:List Value) (q:Nat) (w:World),ag X w (dV w g q us)
 | [],_,_=>ag.rf _ _
 | u :: us,q,w=>by simp only[dV];refine ag.tr (b:=w.setCell ⟨g,q,none⟩ u) ⟨rfl,rfl,rfl,Px,λi _ h=>Below.heap_setCell w ⟨g,q,none⟩ u i (by rintro rfl;exact h j)⟩ (ag.sets j us _ _)
end
section
variable {X Y:Nat->Prop} {w w' w'' W W':World}
theorem ag.bL{b}(j:X b) i u:ag X W (W.setCell ⟨b,i,none⟩ u):=ag.sets j [u] i W
theorem ag.more(h:ag X W W')(u:∀k,X k->Y k):ag Y W W':=⟨h.os,h.tape,h.output,h.size,λi j t=>h.block i j λh=>t (u i h)⟩
theorem ag.gg(u:ag X w w')(v:ag Y w' w'')(y:∀k,k<w.heap.size->Y k->X k):ag X w w'' :=
 ⟨v.os.trans u.os,v.tape.trans u.tape,v.output.trans u.output,bn u.size v.size,λk j t=>(v.block k (bz j u.size) (λh=>t (y k j h))).trans (u.block k j t)⟩
theorem iK{base e size n v xs}(h:W.ownsRow base e size v n xs)(u:ag X W W')(y:∀b,v.ownBlock=some b->¬X b):W'.ownsRow base e size v n xs :=
 Fg h λb _ t j=>u.block b t (y b j)
theorem ag.low{B}(u:ag X w w')(t:∀k,X k->B<=k)(j:B<=w.heap.size):Below B w w' :=
 ⟨u.os,u.tape,u.output,u.size,λi y=>u.block i (bz y j) λe=>by have:=t i e;omega⟩
theorem ag.k{a}(u:ag X w w')(h:K a w)(j:∀k,X k->a.heap.size<=k):K a w':=h.trans (u.low j h.size)
theorem ah.aX{b t cs}(h:ah W b t cs)(u:ag X W W')(hb:¬X b):ah W' b t cs:=(u.block b h.lt hb).trans h
theorem ag.al X W o:ag X W (W.alloc o):=ag.aT ((K.rf W).al o) X
theorem ag.fresh{a}(u:ag X a W){b}(hb:a.heap.size<=b) i v:ag X a (W.setCell ⟨b,i,none⟩ v) :=
 ⟨u.os,u.tape,u.output,by simpa [World.setCell]using u.size,λk hk j=>(Below.heap_setCell W ⟨b,i,none⟩ v k aY).trans (u.block k hk j)⟩
end
section
open Go Go.RowKit Go.Conc
def pn(c:Nat)(l:List Value)(w:World):Prop:=∃s r,w.heap[c]?=some (.chan 8 l.toArray false s r false)
theorem pn.aX{X c l w w'}(h:pn c l w)(u:ag X w w')(j:¬X c):pn c l w':=by obtain⟨s,r,h⟩:=h;exact⟨s,r,(u.block c (Array.getElem?_eq_some_iff.1 h).1 j).trans h⟩
theorem pn.lt{c l w}(h:pn c l w):c<w.heap.size:=h.elim λ_ h=>h.elim λ_ h=>(Array.getElem?_eq_some_iff.1 h).1
theorem adX{c w cap buf cl tm s r}:ag (λk=>k=c) w (w.setChan c cap buf cl s r tm) :=
 ⟨rfl,rfl,rfl,by simp[World.setChan],λk _ hk=>by simp[World.setChan,Array.getElem?_setIfInBounds_ne (Ne.symm hk)]⟩
theorem ard c l v w(h:pn c l w) :
 Calls prog 97 #[.chan (some c),v] w λe w'=>e=.returned (.bool (decide (l.length<8)))/\pn c (if l.length<8 then l++[v]else l) w'/\ag (λk=>k=c) w w':=by
 refine calls_of_loneTo λcs=>?_
 obtain⟨s,r,hb⟩:=h
 have e:Frame.enter prog 97 #[.chan (some c),v] .normal=(base 97).at ⟨#[.chan (some c),v,undef,undef,undef,undef,undef,undef,undef,undef],[]⟩ [.code (f97.body.getD .skip)]:=by rfl
 rw[e]
 refine LoneTo.goes (n:=14) ?_
 simp only[f97,Option.getD_some]
 s_c stepG_seq
 s_reg
 s_op
 s_c stepG_region_end
 s_c stepG_seq
 s_c stepG_seq
 s_reg
 s_op
 s_c stepG_region_end
 s_reg
 s_op
 s_c stepG_region_end
 s_c stepG_seq
 s_reg
 s_stop
 by_cases hl:l.length<8
 ·refine LoneTo.step (step_lone_select_send_room (c:=c) (cap:=8) (buf:=l.toArray) (s:=s) (r:=r) (tm:=false) (stepG_comm (cases:=#[scase c v (.slice none 0 0)]) (blocking:=false) (shape:=.select) (w':=w) rfl rfl ay afb) hb af) ?_;rw[Frame.finish_at];walk_nrm
  refine LoneTo.goes (n:=10) ?_;s_op
  s_op
  s_c stepG_region_end
  s_c stepG_block
  s_cond true
  s_c stepG_seq
  s_reg
  s_op
  s_c stepG_region_end
  s_c stepG_ret'
  s_stop
  refine LoneTo.done ⟨.returned (.bool true),_,rfl,⟨by simp[hl],⟨s+1,r,?_⟩,adX⟩,rfl,rfl,rfl,rfl,_,func97,by simp[results,f97,Frame.at]⟩;rw[if_pos hl,heap_setChan _ _ _ _ _ _ _ _ (Array.getElem?_eq_some_iff.1 hb).1]
 ·refine LoneTo.step (step_lone_select_send_full (c:=c) (cap:=8) (buf:=l.toArray) (s:=s) (r:=r) (tm:=false) (stepG_comm (cases:=#[scase c v (.slice none 0 0)]) (blocking:=false) (shape:=.select) (w':=w) rfl rfl ay afb) hb Vm) ?_;rw[Frame.finish_at];walk_nrm
  refine LoneTo.goes (n:=10) ?_;s_op
  s_op
  s_c stepG_region_end
  s_c stepG_block
  s_cond false
  s_c stepG_seq
  s_reg
  s_op
  s_c stepG_region_end
  s_c stepG_ret'
  s_stop
  exact LoneTo.done ⟨.returned (.bool false),_,rfl,⟨by simp[hl],by rw[if_neg hl];exact⟨s,r,hb⟩,ag.rf _ _⟩,rfl,rfl,rfl,rfl,_,func97,by simp[results,f97,Frame.at]⟩
theorem apY c l w(h:pn c l w) :
 Calls prog 111 #[.chan (some c)] w λe w'=>e=.returned (.tuple #[l.headD (.slice none 0 0),.bool (!l.isEmpty)])/\pn c l.tail w'/\ag (λk=>k=c) w w':=by
 refine calls_of_loneTo λcs=>?_
 obtain⟨s,r,hb⟩:=h
 have e:Frame.enter prog 111 #[.chan (some c)] .normal=(base 111).at ⟨#[.chan (some c),undef,undef,undef,undef,undef,undef,undef,undef,undef,undef],[]⟩ [.code (f111.body.getD .skip)]:=by rfl
 rw[e]
 refine LoneTo.goes (n:=11) ?_
 simp only[f111,Option.getD_some]
 s_c stepG_seq
 s_reg
 s_op
 s_op
 s_c stepG_region_end
 s_c stepG_seq
 s_reg
 s_op
 s_c stepG_region_end
 s_c stepG_seq
 s_reg
 s_stop
 cases l with
 | cons x l =>
  refine LoneTo.step (step_lone_select_recv_buf (c:=c) (cap:=8) (buf:=(x :: l).toArray) (s:=s) (r:=r) (tm:=false) (stepG_comm (cases:=#[rcase c (.slice none 0 0)]) (blocking:=false) (shape:=.select) (w':=w) rfl rfl ay afc) hb aj) ?_
  rw[Frame.finish_at]
  walk_nrm
  refine LoneTo.goes (n:=17) ?_
  s_op
  s_op
  s_c stepG_region_end
  s_c stepG_block
  s_cond true
  s_c stepG_seq
  s_reg
  s_op
  s_op
  s_c stepG_region_end
  s_c stepG_seq
  s_reg
  s_op
  s_op
  s_op
  s_c stepG_region_end
  s_c stepG_ret'
  s_stop
  refine LoneTo.done ⟨.returned (.tuple #[x,.bool true]),_,rfl,⟨rfl,⟨s,r+1,?_⟩,adX⟩,rfl,rfl,rfl,rfl,_,func111,afd⟩
  rw[heap_setChan _ _ _ _ _ _ _ _ (Array.getElem?_eq_some_iff.1 hb).1]
  simp
 | nil =>
  refine LoneTo.step (step_lone_select_default (c:=c) (cap:=8) (s:=s) (r:=r) (tm:=false) (stepG_comm (cases:=#[rcase c (.slice none 0 0)]) (blocking:=false) (shape:=.select) (w':=w) rfl rfl ay afc) hb) ?_
  rw[Frame.finish_at]
  walk_nrm
  refine LoneTo.goes (n:=11) ?_
  s_op
  s_op
  s_c stepG_region_end
  s_c stepG_block
  s_cond false
  s_c stepG_seq
  s_reg
  s_op
  s_op
  s_c stepG_region_end
  s_c stepG_ret'
  s_stop
  exact LoneTo.done ⟨.returned (.tuple #[.slice none 0 0,.bool false]),_,rfl,⟨rfl,⟨s,r,hb⟩,ag.rf _ _⟩,rfl,rfl,rfl,rfl,_,func111,afd⟩
end
section
open Go Go.RowKit Go.ChangeMaps
def DJ(ak:List (Int×Value))(k:Int):Option Value:=(ak.find? λp=>p.1==k).map (·.2)
def BS(w:World)(b:Nat)(ak:List (Int×Value)):Prop :=
 ∃(es:Array MapEntry) (c:Nat),w.heap[b]?=some (.map es c)/\es.toList.map (λe=>(e.key,e.val))=ak.map λp=>(Value.int .i64 p.1,p.2)
theorem BS.new(w:World):BS (w.alloc (.map #[] 0)) w.heap.size []:=⟨#[],0,heap_alloc_new w _,rfl⟩
theorem Uk k:∀(es:List MapEntry) (ak:List (Int×Value)) (i:Nat),es.map (λe=>(e.key,e.val))=ak.map (λp=>(Value.int .i64 p.1,p.2)) ->
 ∃r,Instr.findNow (.int .i64) (.int .i64 k) es i=some r/\r.map (·.2)=DJ ak k
 | [],[],i,_=>⟨none,rfl,rfl⟩
 | [],_ :: _,i,h=>wQ
 | _ :: _,[],i,h=>wQ
 | e :: es,p :: ak,i,h=>by
  simp only[jU,List.cons.injEq,Prod.mk.injEq]at h;obtain⟨⟨j,t⟩,A⟩:=h;obtain⟨r,u,y⟩:=Uk k es ak (i+1) A;unfold Instr.findNow;rw[j];by_cases hk:p.1=k
  ·subst hk;exact⟨some (i,e.val),by simp[Instr.sameNow],by simp[DJ,t]⟩
  ·refine⟨r,?_,?_⟩
   ·have:(k==p.1)=false:=by simp;exact λe=>hk e.symm
    simp[Instr.sameNow,this,u]
   ·rw[y];unfold DJ;rw[List.find?_cons_of_neg sE]
section
variable {P:Program}
theorem aor{K}(t:P.underlying K=some (.int .i64)) k j n w:(Instr.checkKey j (n+1) K (.int .i64 k)).run P w=.ok () w:=by simp[Instr.checkKey,run_underlying t]
theorem Oj{K}(t:P.underlying K=some (.int .i64)) k j w:(Instr.checkKey j 10000 K (.int .i64 k)).run P w=.ok () w:=aor t k j 9999 w
theorem arf{t K E}(F:P.underlying t=some (.map K E))(A:P.underlying K=some (.int .i64)){w b ak}(h:BS w b ak) k v(hn:DJ ak k=none) :
 ∃w',(Instr.mapUpdate t (.map (some b)) (.int .i64 k) v).run P w=.ok () w'/\BS w' b (ak++[(k,v)])/\w.grownBy w' (some b):=by
 obtain⟨es,c,j,u⟩:=h
 obtain⟨r,D,y⟩:=Uk k es.toList ak 0 u
 have B:r=none:=by
  cases r with
  | none=>rfl
  | some x=>rw[hn]at y;cases y
 subst B
 refine⟨setBlock w b (.map (es.push ⟨.int .i64 k,v,c⟩) (c+1)),?_,⟨_,_,heap_setBlock_same j _,?_⟩,⟨rfl,rfl,rfl,Py,λi _ C=>heap_setBlock_other j _ (λe=>C KU)⟩⟩
 ·simp[Instr.mapUpdate,run_underlying F,MapKept.run_getObj_map j,Oj A,Instr.findKey,run_underlying A,D,MapKept.run_setObj_map _ j,Result.andThen,setBlock]
 ·simp[u]
theorem uA{t K E}(A:P.underlying t=some (.map K E))(j:P.underlying K=some (.int .i64)){w z}(hz:(zeroValue E).run P w=.ok z w){b ak}(h:BS w b ak) k :
 (Instr.lookup t (.map (some b)) (.int .i64 k) true).run P w=.ok (.tuple #[(DJ ak k).getD z,.bool (DJ ak k).isSome]) w:=by
 obtain⟨es,c,u,B⟩:=h
 obtain⟨r,y,C⟩:=Uk k es.toList ak 0 B
 rw[<- C]
 cases r with
 | none=>simp[Instr.lookup,run_underlying A,MapKept.run_getObj_map u,Oj j,Instr.findKey,run_underlying j,y,hz,Result.andThen]
 | some x=>simp[Instr.lookup,run_underlying A,MapKept.run_getObj_map u,Oj j,Instr.findKey,run_underlying j,y,Result.andThen]
theorem wI w{ops rest o a Q}
 (hg:o.guard=none) m x v t (j:o.op=Op.insert t m x v) K E (H:P.underlying t=some (.map K E)) (F:P.underlying K=some (.int .i64))
 b ak (hm:a.eval m=.map (some b)) (u:BS w b ak) k (C:a.eval x=.int .i64 k) val (y:a.eval v=val) (hn:DJ ak k=none)
 (D:∀w',BS w' b (ak++[(k,val)])->w.grownBy w' (some b)->wpList P ops Q rest (a.put o.dst undef) w'):wpList P ops Q (o :: rest) a w:=by
 refine wpList_plain hg λJ B=>?_
 obtain⟨w',I,A,G⟩:=arf H F u k val hn
 unfold Oper.wp
 simp[execOp,j,hm,C,y,I,Result.andThen]
 exact B _ _ (D w' A G)
end
end
section
open Go Go.RowKit Go.ChangeMaps
section
variable {α:Type} [DecidableEq α] {enc:α->Value} {P:Program} {kt:TypeId}
def fR(k:α):List (α×Value)->Nat->Option (Nat×Value)
 | [],_=>none
 | p :: r,i=>if p.1=k then some (i,p.2)else fR k r (i+1)
def di(ak:List (α×Value))(k:α):Option Value:=(fR k ak 0).map (·.2)
def rM(ak:List (α×Value))(k:α)(v:Value):List (α×Value):=match fR k ak 0 with|some (i,_)=>ak.modify i λp=>(p.1,v)|none=>ak++[(k,v)]
def BU(ak:List (α×Value))(k:α):List (α×Value):=match fR k ak 0 with|some (i,_)=>ak.eraseIdx i|none=>ak
theorem Ul{k}{ak:List (α×Value)}:∀ {i j:Nat} {v:Value},fR k ak i=some (j,v)->i<=j/\ak[j-i]?=some (k,v):=by
 induction ak with
 | nil=>intro i j v h;cases h
 | cons p r t =>
  grind [fR]
structure FR(P:Program)(kt:TypeId)(enc:α->Value):Prop where
 find:∀(k:α) (es:List MapEntry) (ak:List (α×Value)) (w:World),es.map (λe=>(e.key,e.val))=ak.map (λp=>(enc p.1,p.2))->(Instr.findKey kt (enc k) es).run P w=.ok (fR k ak 0) w
 lW:∀(k:α) (em:Bool) (w:World),(Instr.checkKey em 10000 kt (enc k)).run P w=.ok () w
 stays:∀(k:α),Instr.sameBits 10000 (enc k) (enc k)=true
theorem aog{β γ:Type}{g:β->γ} f(h:∀x,g (f x)=g x):∀(l:List β) (i:Nat),(l.modify i f).map g=l.map g:=by
 intro l
 induction l with
 | nil=>intro i;cases i <;> rfl
 | cons x l j =>
  intro i
  cases i with
  | zero=>simp[h]
  | succ i=>simp[j]
def vP(es:List MapEntry)(c:Nat):Prop:=(es.map (·.born)).Pairwise (· < ·)/\∀n∈es.map (·.born),n<c
theorem vP.push{es c}(h:vP es c) k v:vP (es++[⟨k,v,c⟩]) (c+1):=by
 refine⟨?_,λn hn=>?_⟩
 ·rw[List.map_append];exact List.pairwise_append.2 ⟨h.1,aj,λa j b hb=>by simp at hb;subst hb;exact h.2 a j⟩
 ·rw[List.map_append,DK]at hn;rcases hn with hn|hn
  ·have:=h.2 n hn;omega
  ·grind
theorem vP.same{es j c}(h:vP es c)(e:j.map (·.born)=es.map (·.born)):vP j c:=by
 grind [vP]
theorem vP.sub{es j c}(h:vP es c)(s:j.Sublist es):vP j c:=⟨h.1.sublist (s.map _),λn hn=>h.2 n ((s.map _).mem hn)⟩
def ei(enc:α->Value)(w:World)(b:Nat)(ak:List (α×Value)):Prop :=
 ∃(es:Array MapEntry) (c:Nat),w.heap[b]?=some (.map es c)/\es.toList.map (λe=>(e.key,e.val))=ak.map (λp=>(enc p.1,p.2))/\vP es.toList c
end
section
variable {α:Type} {enc:α->Value} {P:Program} {kt:TypeId}
theorem ei.new(w:World):ei enc (w.alloc (.map #[] 0)) w.heap.size []:=⟨#[],0,heap_alloc_new w _,rfl,by simp[vP]⟩
end
section
variable {α:Type} [DecidableEq α] {enc:α->Value} {P:Program} {kt:TypeId}
end
section
variable {α:Type} {enc:α->Value} {P:Program} {kt:TypeId}
theorem ei.lt{w b ak}(h:ei enc w b ak):b<w.heap.size:=by
 obtain⟨es,c,h,_⟩:=h
 grind
end
section
variable {α:Type} [DecidableEq α] {enc:α->Value} {P:Program} {kt:TypeId}
end
section
variable {α:Type} {enc:α->Value} {P:Program} {kt:TypeId}
theorem ei.aX{w w' b ak X}(h:ei enc w b ak)(hb:ag X w w')(u:¬X b):ei enc w' b ak:=by have y:=h.lt;obtain⟨es,c,j,t⟩:=h;exact⟨es,c,(hb.block b y u).trans j,t⟩
end
section
variable {α:Type} [DecidableEq α] {enc:α->Value} {P:Program} {kt:TypeId}
end
section
variable {α:Type} {enc:α->Value} {P:Program} {kt:TypeId}
theorem ei.st{w w' b ak}(h:ei enc w b ak)(k:K w w'):ei enc w' b ak:=by have u:=h.lt;obtain⟨es,c,j,t⟩:=h;exact⟨es,c,(k.block b u).trans j,t⟩
end
section
variable {α:Type} [DecidableEq α] {enc:α->Value} {P:Program} {kt:TypeId}
end
section
variable {α:Type} {enc:α->Value} {P:Program} {kt:TypeId}
theorem ei.cells{w b ak}(h:ei enc w b ak){e cs}(hb:ah w b e cs):False:=by obtain⟨es,c,j,_⟩:=h;have:=j.symm.trans hb;cases this
end
section
variable {α:Type} [DecidableEq α] {enc:α->Value} {P:Program} {kt:TypeId}
theorem Df{t E}(u:FR P kt enc)(A:P.underlying t=some (.map kt E)){w z}(hz:(zeroValue E).run P w=.ok z w){b ak}(h:ei enc w b ak) k :
 (Instr.lookup t (.map (some b)) (enc k) true).run P w=.ok (.tuple #[(di ak k).getD z,.bool (di ak k).isSome]) w/\(Instr.lookup t (.map (some b)) (enc k) false).run P w=.ok ((di ak k).getD z) w:=by
 obtain⟨es,c,y,B,C⟩:=h
 have j:=u.find k es.toList ak w B
 unfold di
 cases hr:fR k ak 0 with
 | none=>rw[hr]at j;simp[Instr.lookup,run_underlying A,MapKept.run_getObj_map y,u.lW,j,hz,Result.andThen]
 | some x=>rw[hr]at j;simp[Instr.lookup,run_underlying A,MapKept.run_getObj_map y,u.lW,j,Result.andThen]
theorem Fh{t E}(B:FR P kt enc)(D:P.underlying t=some (.map kt E)){w b ak}(h:ei enc w b ak) k v :
 ∃w',(Instr.mapUpdate t (.map (some b)) (enc k) v).run P w=.ok () w'/\ei enc w' b (rM ak k v)/\w.grownBy w' (some b):=by
 obtain⟨es,c,u,h2,C⟩:=h
 have A:=B.find k es.toList ak w h2
 have hg:∀o,w.grownBy (setBlock w b o) (some b):=λo=>⟨rfl,rfl,rfl,Py,λi _ y=>heap_setBlock_other u _ (λe=>y KU)⟩
 unfold rM
 cases hr:fR k ak 0 with
 | none =>
  rw[hr]at A;refine⟨setBlock w b (.map (es.push ⟨enc k,v,c⟩) (c+1)),?_,⟨_,_,heap_setBlock_same u _,?_,by simpa using C.push (enc k) v⟩,hg _⟩
  ·simp[Instr.mapUpdate,run_underlying D,MapKept.run_getObj_map u,B.lW,A,MapKept.run_setObj_map _ u,Result.andThen,setBlock]
  ·simp[h2]
 | some x =>
  obtain⟨i,G⟩:=x;rw[hr]at A;obtain⟨-,y⟩:=Ul hr;have H:es.toList.length=ak.length:=afe;have I:i<ak.length:=aG;have F:(es[i]?).map (·.key)=some (enc k):=by
   have:=congrArg (λl=>l[i]?) h2
   simp only[List.getElem?_map]at this
   rw[show i-0=i by omega]at y
   rw[y]at this
   simp only[Array.getElem?_toList,Option.map_some]at this
   cases he:es[i]? with
   | none=>rw[he]at this;simp at this
   | some e=>rw[he]at this;simp at this;simp[this.1]
  refine⟨setBlock w b (.map (es.modify i λe=>{ e with key:=enc k,val:=v }) c),?_,⟨_,_,heap_setBlock_same u _,?_,C.same (by grind [Array.toList_modify,aog])⟩,hg _⟩
  ·simp[Instr.mapUpdate,run_underlying D,MapKept.run_getObj_map u,B.lW,A,F,Instr.keyThatStays,B.stays,MapKept.run_setObj_map _ u,Result.andThen,setBlock]
  ·rw[Array.toList_modify];apply List.ext_getElem?;intro j;have J:=congrArg (λl=>l[j]?) h2;grind
theorem auR{t E}(KG:FR P kt enc)(hT:P.underlying t=some (.map kt E)){w b ak}(h:ei enc w b ak) k ty j(hts:j[0]?=some t) :
 ∃w',(Builtin.delete_ j ty #[.map (some b),enc k]).run P w=.ok (.tuple #[]) w'/\ei enc w' b (BU ak k)/\w.grownBy w' (some b):=by
 obtain⟨es,c,h1,h2,y⟩:=h
 have hf:=KG.find k es.toList ak w h2
 have hg:∀o,w.grownBy (setBlock w b o) (some b):=λo=>⟨rfl,rfl,rfl,Py,λi _ u=>heap_setBlock_other h1 _ (λe=>u KU)⟩
 have B:es.toList.length=ak.length:=afe
 unfold BU
 cases hr:fR k ak 0 with
 | none => rw[hr]at hf;refine⟨setBlock w b (.map es c),?_,⟨_,_,heap_setBlock_same h1 _,h2,y⟩,hg _⟩;exact aff
 | some x =>
  obtain⟨i,A⟩:=x;rw[hr]at hf;obtain⟨-,u⟩:=Ul hr;have C:i<es.size:=aG;refine⟨setBlock w b (.map (es.eraseIdxIfInBounds i) c),?_,⟨_,_,heap_setBlock_same h1 _,?_,y.sub (by grind [Array.toList_eraseIdx,List.eraseIdx_sublist])⟩,hg _⟩
  ·exact aff
  ·grind [Array.toList_eraseIdx,List.map,List.eraseIdx_eq_take_drop_succ,List.map_take,List.map_drop]
end
def encI(n:Int):Value:=.int .i64 n
theorem DX{P kt}(j:P.underlying kt=some (.int .i64)):FR P kt encI:=by
 refine⟨λk es ak w h=>?_,λk y w=>Oj j k y w,λk=>by simp[encI,Instr.sameBits]⟩;have key:∀(es:List MapEntry) (ak:List (Int×Value)) (i:Nat),es.map (λe=>(e.key,e.val))=ak.map (λp=>(encI p.1,p.2))->Instr.findNow (.int .i64) (.int .i64 k) es i=some (fR k ak i):=by
  intro es
  induction es with
  | nil=>intro ak i h;cases ak with
   | nil=>rfl
   | cons p r=>simp at h
  | cons e es A=>intro ak i h;cases ak with
   | nil=>simp at h
   | cons p r =>
    simp only[jU,List.cons.injEq,Prod.mk.injEq]at h;obtain⟨⟨t,u⟩,B⟩:=h;unfold Instr.findNow fR;rw[t];by_cases hk:p.1=k
    ·subst hk;simp[Instr.sameNow,encI,u]
    ·have:(k==p.1)=false:=aG;simp[Instr.sameNow,encI,this,A r (i+1) B,hk]
 simp[Instr.findKey,run_underlying j,encI,key es ak 0 h]
def lS(a:aR):Value:=.agg #[.int .i64 a.1,.int .u64 (a.2.1:Int),.int .u64 (a.2.2:Int)]
theorem asN x y w d:(Op.equalIn (d+1+1) 26 (lS x) (lS y)).run prog w=.ok (decide (x=y)) w:=by obtain⟨a,b,c⟩:=x;obtain⟨C,B,t⟩:=y;unfold lS;simp[go_sem,Kh];by_cases A:a=C <;> by_cases u:b=B <;> by_cases j:c=t <;> simp[A,j,u] <;> omega
theorem QX:FR prog 26 lS:=by
 refine⟨λk es ak w h=>?_,λk t w=>?_,λk=>?_⟩
 ·have key:∀(es:List MapEntry) (ak:List (aR×Value)) (i:Nat),es.map (λe=>(e.key,e.val))=ak.map (λp=>(lS p.1,p.2))->(Instr.findAsking 26 (lS k) es i).run prog w=.ok (fR k ak i) w:=by
   intro es
   induction es with
   | nil=>intro ak i h;cases ak with
    | nil=>rfl
    | cons p r=>simp at h
   | cons e es ih=>intro ak i h;cases ak with
    | nil=>simp at h
    | cons p r => simp only[jU,List.cons.injEq,Prod.mk.injEq]at h;obtain⟨⟨h1,u⟩,h3⟩:=h;have he:(Op.equal 26 (lS k) (lS p.1)).run prog w=.ok (decide (k=p.1)) w:=asN k p.1 w 9998;exact afg
  obtain⟨j,hu⟩:∃j,prog.underlying 26=some (.struct j):=⟨_,underlying26⟩;cases es with
  | nil => exact afh
  | cons e es =>
   have hn:Instr.findNow (.struct j) (lS k) (e :: es) 0=none:=by rfl
   simp[Instr.findKey,run_underlying hu,hn,key (e :: es) ak 0 h]
 ·rfl
 ·unfold lS;simp[Instr.sameBits]
end
section
open Go Go.RowKit Go.ChangeMaps
theorem azm{α}[DecidableEq α]{enc P T j}(hu:P.underlying T=some (.struct j))(he:∀x y w,(Op.equal T (enc x) (enc y)).run P w=.ok (decide (x=y)) w)
 (hn:∀k v,Instr.sameNow (.struct j) (enc k) v=none) (t:∀(k:α) (em:Bool) (w:World),(Instr.checkKey em 10000 T (enc k)).run P w=.ok () w) (hb:∀k,Instr.sameBits 10000 (enc k) (enc k)=true):FR P T enc:=by
 refine⟨λk es ak w h=>?_,t,hb⟩
 have key:∀(es:List MapEntry) (ak:List (α×Value)) (i:Nat),es.map (λe=>(e.key,e.val))=ak.map (λp=>(enc p.1,p.2))->(Instr.findAsking T (enc k) es i).run P w=.ok (fR k ak i) w:=by
  intro es
  induction es with
  | nil=>intro ak i h;cases ak <;> simp_all [Instr.findAsking,fR] <;> rfl
  | cons e es ih=>intro ak i h;cases ak with
   | nil=>simp at h
   | cons p r => simp only[jU,List.cons.injEq,Prod.mk.injEq]at h;obtain⟨⟨h1,u⟩,h3⟩:=h;exact afg
 cases es with
 | nil => exact afh
 | cons e es =>
  have h9:Instr.findNow (.struct j) (enc k) (e :: es) 0=none:=by rfl
  simp[Instr.findKey,run_underlying hu,h9,key (e :: es) ak 0 h]
def qQ(a:Int×Int):Value:=.agg #[.int .i64 a.1,.int .i64 a.2]
theorem ajN:FR prog 153 qQ :=
 azm underlying153 (λx y w=>by
  obtain⟨a,b⟩:=x;obtain⟨c,d⟩:=y;unfold qQ;show (Op.equalIn (9998+1+1) _ _ _).run _ _=_;simp[go_sem,Kh];by_cases j:a=c <;> by_cases t:b=d <;> simp[j,t] <;> omega) (λk v=>by unfold Instr.sameNow qQ;split <;> simp_all) (λk u w=>by unfold qQ;kernel_rfl) λk=>by unfold qQ;simp[Instr.sameBits]
end
section
variable {P:Program} {Q:Exit->Act->World->Prop}
def pS(t:List (List Nat×List (Nat×Nat)))(z:Nat):Nat->Nat->Bool
 | 0,_=>false
 | f+1,j=>match t[j]? with
  | none=>false
  | some y=>y.1.contains z||y.1.any (pS t z f)
theorem Hu{ops t}(C:uI ops t=true){L}(u:Closed ops L){z}:∀(f j:Nat),pS t z f j=true->L j=true->L z=true:=by
 intro f
 induction f with
 | zero=>intro j h _;cases h
 | succ f F =>
  intro j h A
  unfold pS at h
  cases hy:t[j]? with
  | none=>rw[hy]at h;cases h
  | some y =>
   rw[hy]at h
   simp only[Bool.or_eq_true,List.contains_iff_mem,List.any_eq_true]at h
   have H:=u.2 j A
   have D:ops[j]?=some ops[j]:=aj
   have B:=List.all_eq_true.1 C (ops[j],j) (List.mem_zipIdx_iff_getElem?.2 aj)
   simp only[hy,dE]at B
   have G:∀i∈y.1,L i=true:=λi E=>u.1 j _ D A i aG
   grind
theorem asO{ρ w} s x t ty e base z size bytes(T:fK P t e z size bytes) v n xs(I:ρ s=v)(G:w.ownsRow base e size v n xs)
 B A m c j (H:ρ x=.slice A m c) (C:Reads w B size A m j) (y:∀u∈j,u.oneCell'=true)
 (L:(n+m)*(bytes+1)<=140737488355328) (D:base<=w.heap.size) :
 ∃v' w',(execOp ρ (aF (.call { callee:=.builtin .append,args:=#[s,x],argTypes:=#[t,t] }) ty)).run P w=.ok (.value v') w'/\w'.ownsRow base e size v' (n+m) (xs++j)/\Below base w w'/\w.grownBy w' v.ownBlock:=by
 obtain⟨v',w',M,E,J,N,F⟩:=Fo w base t ty e z size bytes T v n xs G B A m c j C y L D
 refine⟨v',w',?_,E,F,J⟩
 simp only[execOp,aF,resolve,invoke,builtin,Sem.run_bind,Sem.run_pure,Result.andThen_ok,List.map_toArray,jU,List.map_nil,I,H,M]
end
section
variable {P:Program} {Q:Exit->Act->World->Prop}
def cz(V:Nat->Value)(w:World):Nat->List (Value->World->Prop)->Prop
 | _,[]=>True
 | k,φ :: r=>φ (V k) w/\cz V w (k+1) r
def aH(P:Program)(j:Act)(E:(Nat->Value)->World->Prop):Nat->List Oper->List (List Nat×List (Nat×Nat))->(Nat->Value)->World->Prop
 | _,[],_,V,w=>E V w
 | _,_ :: _,[],_,_=>False
 | k,o :: r,x :: xs,V,w=>if bP V o.guard=true then jM P (λv w'=>aH P j E (k+1) r xs (ba V k v) w') ((execOp (aE x.2 j V) (aF o.op o.type)).run P w)else aH P j E (k+1) r xs (ba V k undef) w
def Lk(t:List (List Nat×List (Nat×Nat)))(m n:Nat):Bool :=
 (List.range n).all λk=>decide (k<m)||(List.range k).all λj=>match t[k]? with
  | none=>false
  | some x=>x.1.contains j||x.1.any (pS t j n)
theorem afi{V w}:∀(s t:List (Value->World->Prop)),(∀j,t.length<=j->j<t.length+s.length->tab (t++s) j (V j) w)->cz V w t.length s:=by
 intro s
 induction s with
 | nil=>intro t _;trivial
 | cons φ s ih =>
  intro t h;refine⟨?_,?_⟩
  ·have:=h t.length (aC _) aj;unfold tab at this;simpa [List.getD_eq_getElem?_getD]using this
  ·have:=ih (t++[φ]) (λj u y=>by
    simp at u y;have:=h j af aY;simpa using this)
   simpa using this
def QK(t:List Nat)(u:List (List Nat×List (Nat×Nat)))(m n:Nat):Bool :=
 t.all (λj=>decide (j<m))&&(List.range n).all λk=>decide (k<m)||(List.range k).all λj=>t.contains j||match u[k]? with
  | none=>false
  | some x=>x.1.contains j||x.1.any (pS u j n)
theorem TQ{ops B y m}(E:uI ops y=true)(A:QK B y m ops.size=true){L}(M:Closed ops L){k}(hk:m<=k){o}(J:ops[k]?=some o)(F:∀j∈ahead o,L j=true):∀j,j<k->j∉B->L j=true:=by
 intro j H G
 have C:=(Array.getElem?_eq_some_iff.1 J).1
 simp only[QK,dE]at A
 have u:=List.all_eq_true.1 A.2 k (List.mem_range.2 C)
 simp only[Bool.or_eq_true,decide_eq_true_eq]at u
 rcases u with u|u
 ·omega
 have t:=List.all_eq_true.1 u j (List.mem_range.2 H)
 simp only[Bool.or_eq_true,List.contains_iff_mem]at t
 have t:=t.resolve_left G
 cases hx:y[k]? with
 | none=>rw[hx]at t;cases t
 | some x =>
  rw[hx]at t;simp only[Bool.or_eq_true,List.contains_iff_mem,List.any_eq_true]at t;have I:=List.all_eq_true.1 E (o,k) (List.mem_zipIdx_iff_getElem?.2 aG);simp only[hx,dE]at I;have N:∀i∈x.1,L i=true:=λi D=>F i aG
  rcases t with t|⟨i,D,t⟩
  ·grind
  ·grind [Hu]
end
def Fx(M:Nat->Prop)(p:World->Prop)(w:World):Prop:=∀W,ag M w W->p W
section
variable {M N X:Nat->Prop} {p q:World->Prop} {w w':World}
theorem Fx.now(h:Fx M p w):p w:=h w (ag.rf _ _)
theorem Fx.k(h:Fx M p w)(k:K w w'):Fx M p w':=λW u=>h W ((ag.aT k _).tr u)
theorem Fx.up(h:Fx M p w)(u:ag X w w')(t:∀k,X k->M k):Fx M p w':=λW j=>h W ((u.more t).tr j)
theorem Fx.less(h:Fx M p w)(j:∀k,N k->M k):Fx N p w:=λW u=>h W (u.more j)
theorem Fx.mono(h:Fx M p w)(hp:∀W,p W->q W):Fx M q w:=λW u=>hp W (h W u)
theorem Fx.at(h:Fx M p w)(k:K w w'):p w':=h w' (ag.aT k _)
theorem Fx.to(h:Fx M p w)(u:ag X w w')(t:∀k,X k->M k)(j:∀k,k<w.heap.size->N k->M k):Fx N p w':=λW v=>h W ((u.more t).gg v j)
theorem Fx.fresh{lo}(h:∀W,aI lo none w W->p W)(t:∀k,M k->k<lo):Fx M p w :=
 λW u=>h W (u.qZ λk y _ _ j=>by have:=t k j;omega)
end
abbrev BV(n:Int):List Value:=[.int .i64 n]
def cR:dW Int where
 size:=1
 rel:=λn cs _=>cs=BV n
 len:=by rintro x cs w rfl;rfl
 one:=by rintro x cs w rfl u j;simp at j;subst j;rfl
 st:=λh _=>h
theorem Kt l W:Each cR l (l.map BV) W:=⟨aj,λi h j=>by simp[cR]⟩
theorem Um(l:List Int):(l.map BV).flatten=l.map λn=>Value.int .i64 n:=by
 induction l with
 | nil=>rfl
 | cons a l j=>simp[BV,j]
theorem Ou{l css W}(h:Each cR l css W):css=l.map BV:=by
 refine List.ext_getElem KT λi j t=>?_
 have:=h.2 i aG j;simpa [cR]using this
