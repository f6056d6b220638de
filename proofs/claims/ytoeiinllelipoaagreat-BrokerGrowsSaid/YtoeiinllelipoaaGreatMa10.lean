/-
  Messages in plain Lean (layer 13): what may be, what bytes they are, how a reader reads them. Conditions: none.
-/
import Derived.Test.YtoeiinllelipoaaGreatMa09
import Derived.Test.YtoeiinllelipoaaGreatMz
set_option maxRecDepth 100000
set_option maxHeartbeats 16000000
set_option linter.unusedVariables false
set_option linter.unusedSimpArgs false
namespace Go.Proofs.YtoeiinllelipoaaGreat
open Go Go.RowKit Tryz
abbrev mr(α:Type):=List UInt8->Bool->Bool->α×List UInt8×Bool×Bool
structure r9{α:Type}(enc:α->List UInt8)(ok:α->Prop)(rd:mr α):Prop where
 fwd:∀x,ok x->∀rest,rd (enc x++rest) false false=(x,rest,false,false)
 back:∀l wr bd,(rd l wr bd).2.2.1=false->(rd l wr bd).2.2.2=false->l=enc (rd l wr bd).1++(rd l wr bd).2.1/\wr=false/\bd=false
 len:∀l wr bd,(rd l wr bd).2.1.length<=l.length
def BH:mr Nat:=λl wr h=>((aC l wr).1,(aC l wr).2.1,(aC l wr).2.2,h)
def lH(h:Nat):mr Nat:=λl wr i=>if (aC l wr).1<h then ((aC l wr).1,(aC l wr).2.1,(aC l wr).2.2,i)else (0,(aC l wr).2.1,(aC l wr).2.2,true)
theorem TI:r9 aD (λn=>n<18446744073709551616) BH where
 fwd:=by intro n h rest;simp only[BH,pN n h]
 back:=by intro l wr s j i;simp only[BH]at j i⊢;obtain⟨e,w⟩:=qM j;exact⟨e,w,i⟩
 len:=λl wr _=>nW l wr
theorem yM(s:Nat)(u:s<=18446744073709551616):r9 aD (λn=>n<s) (lH s) where
 fwd:=by intro n h rest;simp only[lH,pN n af];rw[if_pos h]
 back:=by
  intro l wr t j i;simp only[lH]at j i⊢;split at i
  ·rename_i h;rw[if_pos h]at j⊢;obtain⟨e,w⟩:=qM j;exact⟨e,w,i⟩
  ·cases i
 len:=by intro l wr t;have:=nW l wr;simp only[lH];split <;> exact this
theorem yR(h:Nat)(i:0<h)(l:List UInt8)(wr j:Bool):(lH h l wr j).1<h:=by
 simp only[lH];split
 ·assumption
 ·exact i
def lW{α β:Type}(a:mr α)(b:mr β):mr (α×β):=λl wr h =>
 (((a l wr h).1,(b (a l wr h).2.1 (a l wr h).2.2.1 (a l wr h).2.2.2).1),(b (a l wr h).2.1 (a l wr h).2.2.1 (a l wr h).2.2.2).2)
theorem Dk{α β:Type}{t:α->List UInt8}{s:β->List UInt8}{C:α->Prop}{D:β->Prop}{u:mr α}{j:mr β}(A:r9 t C u)(B:r9 s D j) :
 r9 (λx:α×β=>t x.1++s x.2) (λx=>C x.1/\D x.2) (lW u j) where
 fwd:=by rintro ⟨x,y⟩ ⟨h,i⟩ rest;simp only[lW,dG,A.fwd x h,B.fwd y i]
 back:=by intro l wr F h i;simp only[lW]at h i⊢;obtain⟨J,I,G⟩:=B.back _ _ _ h i;obtain⟨H,E,L⟩:=A.back _ _ _ I G;refine⟨?_,E,L⟩;rw[dG,<- J];exact H
 len:=λl wr F=>bq (B.len _ _ _) (A.len _ _ _)
def DR{α β:Type}(f:α->β)(a:mr α):mr β:=λl wr h=>(f (a l wr h).1,(a l wr h).2)
theorem acG{α β:Type}{s:α->List UInt8}{B:α->Prop}{i:mr α}(A:r9 s B i)(f:α->β){j:β->List UInt8}{C:β->Prop}(g:β->α)(E:∀y,C y->B (g y)/\f (g y)=y/\j y=s (g y))(F:∀l wr h,j (f (i l wr h).1)=s (i l wr h).1):r9 j C (DR f i) where
 fwd:=by intro y G rest;obtain⟨H,I,D⟩:=E y G;simp only[DR,D,A.fwd _ H,I]
 back:=by intro l wr h u t;simp only[DR]at u t⊢;rw[F];exact A.back _ _ _ u t
 len:=λl wr h=>A.len l wr h
def fO{α:Type}(rd:mr α):Nat->mr (List α)
 | 0=>λl wr h=>([],l,wr,h)
 | k+1=>λl wr h=>((fO rd k l wr h).1++[(rd (fO rd k l wr h).2.1 (fO rd k l wr h).2.2.1 (fO rd k l wr h).2.2.2).1],(rd (fO rd k l wr h).2.1 (fO rd k l wr h).2.2.1 (fO rd k l wr h).2.2.2).2)
section
variable {α:Type} {enc:α->List UInt8} {ok:α->Prop} {rd:mr α}
theorem Kh(C:r9 enc ok rd)(k:Nat)(l:List UInt8)(wr h:Bool):(fO rd k l wr h).2.1.length<=l.length/\(fO rd k l wr h).1.length=k:=by
 induction k with
 | zero=>exact⟨aG _,rfl⟩
 | succ k i=>exact⟨bq (C.len _ _ _) i.1,by simp[fO,i.2]⟩
theorem auI(p:α->Prop)(s:∀l wr i,p (rd l wr i).1)(k:Nat)(l:List UInt8)(wr i:Bool):∀x∈(fO rd k l wr i).1,p x:=by
 induction k with
 | zero=>simp[fO]
 | succ k j =>
  intro x h;rcases List.mem_append.1 h with h|h
  ·exact j x h
  ·simp only[List.mem_singleton]at h;subst h;exact s _ _ _
theorem auJ(C:r9 enc ok rd)(l:List α)(h:∀x∈l,ok x)(rest:List UInt8):∀k,k<=l.length->fO rd k (l.flatMap enc++rest) false false=(l.take k,(l.drop k).flatMap enc++rest,false,false):=by
 intro k
 induction k with
 | zero=>intro _;simp[fO]
 | succ k ih => intro hk;have hk':k<l.length:=af;have hd:l.drop k=l[k] :: l.drop (k+1):=UX;have hx:=h l[k] (bW hk');simp only[fO];exact aer
theorem asS(C:r9 enc ok rd){k:Nat}{l:List UInt8}{wr i:Bool}(h:(fO rd k l wr i).2.2.1=false)(j:(fO rd k l wr i).2.2.2=false):l=(fO rd k l wr i).1.flatMap enc++(fO rd k l wr i).2.1/\wr=false/\i=false:=by
 induction k with
 | zero=>exact⟨by simp[fO],h,j⟩
 | succ k t => simp only[fO]at h j⊢;obtain⟨e1,s,A⟩:=C.back _ _ _ h j;obtain⟨e2,y,u⟩:=t s A;refine⟨?_,y,u⟩;exact UY
def gj(enc:α->List UInt8)(l:List α):List UInt8:=aD l.length++l.flatMap enc
def gm(rd:mr α):mr (List α):=λl wr h=>fO rd (lH 17 l wr h).1 (lH 17 l wr h).2.1 (lH 17 l wr h).2.2.1 (lH 17 l wr h).2.2.2
theorem vL(C:r9 enc ok rd):r9 (gj enc) (λl=>l.length<=16/\∀x∈l,ok x) (gm rd) where
 fwd:=by rintro l⟨j,i⟩ rest;simp only[gm,gj,dG,(yM 17 af).fwd l.length (by show l.length<17;omega)];rw[auJ C l i rest l.length (aG _)];simp
 back:=by intro l wr t j i;simp only[gm]at j i⊢;obtain⟨y,s,D⟩:=asS C j i;obtain⟨B,A,u⟩:=(yM 17 af).back _ _ _ s D;refine⟨?_,A,u⟩;unfold gj;rw[(Kh C _ _ _ _).2,dG,<- y];exact B
 len:=λl wr t=>bq (Kh C _ _ _ _).1 ((yM 17 af).len _ _ _)
end
structure fG where
 id:av
 yes:Bool
 deriving DecidableEq
structure bK where
 kind:Int
 got:Nat
 bM:List fG
 asks:List aq
 entries:List aq
 cH:List aq
 bY:List av
 ends:List av
 deriving DecidableEq
def xQ:bK:=⟨0,0,[],[],[],[],[],[]⟩
def oh(a:av):Bool:=pV a.1
def sc(v:fG):Bool:=pV v.id.1
def ki{α:Type}(p:α->Bool)(l:List α):Bool:=decide (l.length<=16)&&l.all p
def zl(m:bK):Bool:=if m.kind=1 then m.entries.isEmpty&&m.cH.isEmpty&&m.bY.isEmpty&&m.ends.isEmpty else if m.kind=2 then m.bM.isEmpty&&m.asks.isEmpty else false
def ed(m:bK):Bool:=zl m&&ki sc m.bM&&ki bP m.asks&&ki bP m.entries&&ki bP m.cH&&ki oh m.bY&&ki oh m.ends
def ig(m:bK):Int:=if ed m then 0 else 130
def oQ(m:bK):Prop:=bU m.kind/\m.got<18446744073709551616/\(∀v∈m.bM,df v.id)/\(∀x∈m.asks,cK x)/\(∀x∈m.entries,cK x)/\(∀x∈m.cH,cK x)/\(∀a∈m.bY,df a)/\∀a∈m.ends,df a
def lX(v:fG):List UInt8:=eV v.id++aD (if v.yes then 1 else 0)
def gK(x:aq):List UInt8:=gZ (nY x)
def mh(m:bK):List UInt8:=aD (bf m.kind)++aD m.got++(if m.kind=1 then gj lX m.bM++gj gK m.asks else gj gK m.entries++gj gK m.cH++gj eV m.bY++gj eV m.ends)
def xH(m:bK):List UInt8:=if ed m then mh m else []
def ib:mr av:=DR (λx=>((x.1:Int),x.2.1,x.2.2)) (lW (lH 16) (lW BH BH))
def mZ:mr fG:=DR (λx=>⟨x.1,decide (x.2=1)⟩) (lW ib (lH 2))
def iT(n:Int):mr aq:=λl wr h=>(pP (aP n l wr).1,(aP n l wr).2.1,(aP n l wr).2.2,h||(kN (aP n l wr).1).isNone)
theorem Hv:r9 eV (λa=>pV a.1=true/\df a) ib:=by
 refine acG (Dk (yM 16 af) (Dk TI TI)) _ (λa:av=>(a.1.toNat,a.2.1,a.2.2)) ?_ ?_
 ·rintro ⟨b,l,s⟩ ⟨j,i⟩;simp only[pV,cz,decide_eq_true_eq]at j;refine⟨⟨by show b.toNat<16;omega,i.2.1,i.2.2⟩,?_,?_⟩
  ·simp only[Prod.mk.injEq,and_true];omega
  ·simp only[eV];rw[vM b j.1 af]
 ·intro l wr t;have:=yR 16 af l wr t;simp only[lW,eV];rw[vM _ af af];simp
theorem TJ:r9 lX (λv=>pV v.id.1=true/\df v.id) mZ:=by
 refine acG (Dk Hv (yM 2 af)) _ (λv:fG=>(v.id,if v.yes then 1 else 0)) ?_ ?_
 ·rintro ⟨a,y⟩ ⟨s,j⟩;refine⟨⟨⟨s,j⟩,by cases y <;> simp⟩,by cases y <;> rfl,rfl⟩
 ·intro l wr i;simp only[lW,lX];have j:=yR 2 af (ib l wr i).2.1 (ib l wr i).2.2.1 (ib l wr i).2.2.2;have key:∀n:Nat,n<2->(if decide (n=1)=true then 1 else 0)=n:=by
   intro n hn;by_cases h:n=1
   ·simp[h]
   ·have:n=0:=af;simp[this]
  exact congrArg (λn=>eV (ib l wr i).1++aD n) (key _ j)
theorem ET(n:Int):r9 gK (λx=>bP x=true/\cK x/\((eO x).length:Int)<=n) (iT n) where
 fwd:=by
  rintro x⟨j,i,y⟩ rest;have B:=Ib j i;have hb:=EZ n (eO x) af y rest;have e:nY x=eO x:=by unfold nY;rw[j];rfl
  simp only[iT,gK,gZ,e];rw[hb];simp only[pP,acw x j i];rfl
 back:=by
  intro l wr C j i
  simp only[iT,Bool.or_eq_false_iff]at j i⊢
  obtain⟨u,_,t⟩:=E0 j
  cases hd:kN (aP n l wr).1 with
  | none=>rw[hd]at i;cases i.2
  | some x =>
   obtain⟨A,s⟩:=abO hd;refine⟨?_,t,i.1⟩;have e:nY x=eO x:=by unfold nY;rw[s];rfl
   simp only[pP,hd,Option.getD_some,gK,gZ,e];rw[<- A];exact u
 len:=λl wr _=>Dq n l wr
def fR:mr (Nat×Nat):=lW (lH 3) BH
def zm(n:Int):mr (List fG×List aq):=lW (gm mZ) (gm (iT n))
def oR(n:Int):mr (List aq×List aq×List av×List av):=lW (gm (iT n)) (lW (gm (iT n)) (lW (gm ib) (gm ib)))
def nj(n:Int):mr bK:=λl wr h =>
 if (fR l wr h).1.1=1 then (⟨1,(fR l wr h).1.2,(zm n (fR l wr h).2.1 (fR l wr h).2.2.1 (fR l wr h).2.2.2).1.1,(zm n (fR l wr h).2.1 (fR l wr h).2.2.1 (fR l wr h).2.2.2).1.2,[],[],[],[]⟩,(zm n (fR l wr h).2.1 (fR l wr h).2.2.1 (fR l wr h).2.2.2).2)
 else if (fR l wr h).1.1=2 then (⟨2,(fR l wr h).1.2,[],[],(oR n (fR l wr h).2.1 (fR l wr h).2.2.1 (fR l wr h).2.2.2).1.1,(oR n (fR l wr h).2.1 (fR l wr h).2.2.1 (fR l wr h).2.2.2).1.2.1,(oR n (fR l wr h).2.1 (fR l wr h).2.2.1 (fR l wr h).2.2.2).1.2.2.1,(oR n (fR l wr h).2.1 (fR l wr h).2.2.1 (fR l wr h).2.2.2).1.2.2.2⟩,(oR n (fR l wr h).2.1 (fR l wr h).2.2.1 (fR l wr h).2.2.2).2)
 else (⟨((fR l wr h).1.1:Int),(fR l wr h).1.2,[],[],[],[],[],[]⟩,(fR l wr h).2)
def sf(b:List UInt8):Option bK:=if !(nj b.length b false false).2.2.2&&(!(nj b.length b false false).2.2.1&&(nj b.length b false false).2.1.isEmpty)&&ed (nj b.length b false false).1 then some (nj b.length b false false).1 else none
def oJ(b:List UInt8):bK:=(sf b).getD xQ
def tV(b:List UInt8):Int:=if (sf b).isSome then 0 else 130
theorem VH{n:Int}{l j:List UInt8}{wr t i s:Bool}{g:Nat}(h:fR l wr t=((1,g),j,i,s)):nj n l wr t=(⟨1,g,(zm n j i s).1.1,(zm n j i s).1.2,[],[],[],[]⟩,(zm n j i s).2):=by unfold nj;rw[h];rfl
theorem VI{n:Int}{l j:List UInt8}{wr t i s:Bool}{g:Nat}(h:fR l wr t=((2,g),j,i,s)):nj n l wr t=(⟨2,g,[],[],(oR n j i s).1.1,(oR n j i s).1.2.1,(oR n j i s).1.2.2.1,(oR n j i s).1.2.2.2⟩,(oR n j i s).2):=by unfold nj;rw[h];rfl
theorem Xw{n:Int}{l s:List UInt8}{wr j i t:Bool}{k g:Nat}(h:fR l wr j=((k,g),s,i,t))(u:¬k=1)(y:¬k=2):nj n l wr j=(⟨(k:Int),g,[],[],[],[],[],[]⟩,s,i,t):=by unfold nj;rw[h];simp only;rw[if_neg u,if_neg y]
theorem auK{α:Type}{p:α->Bool}{l:List α}:ki p l=true↔l.length<=16/\∀x∈l,p x=true:=by simp only[ki,cz,decide_eq_true_eq,pU]
theorem T1{m:bK}(h:ed m=true):((m.kind=1/\m.entries=[]/\m.cH=[]/\m.bY=[]/\m.ends=[])∨(m.kind=2/\m.bM=[]/\m.asks=[])) /\
 (m.bM.length<=16/\∀x∈m.bM,sc x=true)/\(m.asks.length<=16/\∀x∈m.asks,bP x=true)/\(m.entries.length<=16/\∀x∈m.entries,bP x=true)/\(m.cH.length<=16/\∀x∈m.cH,bP x=true) /\
 (m.bY.length<=16/\∀x∈m.bY,oh x=true)/\(m.ends.length<=16/\∀x∈m.ends,oh x=true):=by
 simp only[ed,cz,auK]at h
 obtain⟨⟨⟨⟨⟨⟨i,t⟩,u⟩,y⟩,j⟩,s⟩,h6⟩:=h
 refine⟨?_,t,u,y,j,s,h6⟩
 unfold zl at i
 split at i
 ·rename_i hk;simp only[cz,List.isEmpty_iff]at i;exact .inl ⟨hk,i.1.1.1,i.1.1.2,i.1.2,i.2⟩
 ·split at i
  ·rename_i hk;simp only[cz,List.isEmpty_iff]at i;exact .inr ⟨hk,i.1,i.2⟩
  ·cases i
theorem auL(n:Int)(l:List UInt8)(wr i:Bool)(A:(nj n l wr i).2.2.1=false)(u:(nj n l wr i).2.2.2=false)(y:ed (nj n l wr i).1=true):l=mh (nj n l wr i).1++(nj n l wr i).2.1/\wr=false/\i=false:=by
 have L:=Dk (yM 3 af) TI;obtain⟨k,g,j,s,t,B⟩:∃k g j s t,fR l wr i=((k,g),j,s,t):=⟨_,_,_,_,_,rfl⟩;have C:=L.back l wr i;rw[show lW (lH 3) BH l wr i=((k,g),j,s,t)from B]at C;simp only at C;by_cases H:k=1
 ·subst H;rw[VH B]at A u y⊢;simp only at A u y⊢;have J:=Dk (vL TJ) (vL (ET n));obtain⟨D,c1,c2⟩:=J.back j s t A u;obtain⟨F,c3,c4⟩:=C c1 c2;refine⟨?_,c3,c4⟩;have e:∀v a,mh ⟨1,g,v,a,[],[],[],[]⟩=(aD 1++aD g)++(gj lX v++gj gK a):=by intro v a;simp[mh,show bf 1=1 from rfl]
  rw[e,dG (aD 1++aD g)];unfold zm;rw[<- D];exact F
 ·by_cases G:k=2
  ·subst G;rw[VI B]at A u y⊢;simp only at A u y⊢;have I:=Dk (vL (ET n)) (Dk (vL (ET n)) (Dk (vL Hv) (vL Hv)));have E:=I.back j s t;rw[show lW (gm (iT n)) (lW (gm (iT n)) (lW (gm ib) (gm ib))) j s t=oR n j s t from rfl]at E;generalize oR n j s t=r at *;obtain⟨⟨N,R,rc,rd⟩,M,Q,O⟩:=r;simp only at A u y E⊢;obtain⟨D,c1,c2⟩:=E A u;obtain⟨F,c3,c4⟩:=C c1 c2;refine⟨?_,c3,c4⟩;have e:∀a b c d,mh ⟨2,g,[],[],a,b,c,d⟩=(aD 2++aD g)++(gj gK a++(gj gK b++(gj eV c++gj eV d))):=by intro a b c d;simp[mh,show bf 2=2 from rfl]
   rw[e,dG (aD 2++aD g),<- D];exact F
  ·rw[Xw B H G]at y;have:=(T1 y).1;simp only at this;omega
theorem T2{b:List UInt8}{m:bK}(h:sf b=some m):b=mh m/\ed m=true:=by
 unfold sf at h;split at h
 ·rename_i j;injection h with h;simp only[cz,Bool.not_eq_true',List.isEmpty_iff]at j;obtain⟨⟨s,t,u⟩,i⟩:=j;have hb:=(auL _ b false false t s i).1;rw[u,List.append_nil,h]at hb;rw[h]at i;exact⟨hb,i⟩
 ·cases h
theorem aq9(b:List UInt8):cK (pP b):=by
 unfold pP
 cases h:kN b with
 | none=>exact auE
 | some x=>exact asO h
theorem T3(l:List UInt8)(wr i:Bool):df (ib l wr i).1:=by have h:=yR 16 af l wr i;refine⟨?_,qO _ _,qO _ _⟩;simp only[ib,DR,lW,bU];omega
theorem auM(l:List UInt8)(wr h:Bool):df (mZ l wr h).1.id:=T3 l wr h
theorem Ut(n:Int)(l:List UInt8)(wr h:Bool):cK (iT n l wr h).1:=aq9 _
theorem Ik{α:Type}{rd:mr α}(p:α->Prop)(i:∀l wr h,p (rd l wr h).1)(l:List UInt8)(wr h:Bool):∀x∈(gm rd l wr h).1,p x:=auI p i _ _ _ _
theorem auN(n:Int)(l:List UInt8)(wr h:Bool):(∀v∈(zm n l wr h).1.1,df v.id)/\∀x∈(zm n l wr h).1.2,cK x :=
 ⟨Ik (λv:fG=>df v.id) auM l wr h,Ik cK (Ut n) _ _ _⟩
theorem auO(n:Int)(l:List UInt8)(wr j:Bool):(∀x∈(oR n l wr j).1.1,cK x)/\(∀x∈(oR n l wr j).1.2.1,cK x)/\(∀x∈(oR n l wr j).1.2.2.1,df x)/\∀x∈(oR n l wr j).1.2.2.2,df x:=by
 obtain⟨h,y⟩:∃r,gm (iT n) l wr j=r:=⟨_,rfl⟩;obtain⟨i,A⟩:∃r,gm (iT n) h.2.1 h.2.2.1 h.2.2.2=r:=⟨_,rfl⟩;obtain⟨s,C⟩:∃r,gm ib i.2.1 i.2.2.1 i.2.2.2=r:=⟨_,rfl⟩;obtain⟨F,t⟩:∃r,gm ib s.2.1 s.2.2.1 s.2.2.2=r:=⟨_,rfl⟩;have D:=Ik cK (Ut n) l wr j;have E:=Ik cK (Ut n) h.2.1 h.2.2.1 h.2.2.2;have u:=Ik df T3 i.2.1 i.2.2.1 i.2.2.2;have B:=Ik df T3 s.2.1 s.2.2.1 s.2.2.2;have e:(oR n l wr j).1=(h.1,i.1,s.1,F.1):=by simp only[oR,lW,y,A,C,t]
 rw[e];rw[y]at D;rw[A]at E;rw[C]at u;rw[t]at B;exact⟨D,E,u,B⟩
theorem avV(n:Int)(l:List UInt8)(wr i:Bool):oQ (nj n l wr i).1:=by
 have hg:(fR l wr i).1.2<18446744073709551616:=qO _ _;have hk:(fR l wr i).1.1<3:=yR 3 af l wr i;obtain⟨k,g,t,s,u,j⟩:∃k g t s u,fR l wr i=((k,g),t,s,u):=⟨_,_,_,_,_,rfl⟩;rw[j]at hg hk;simp only at hg hk;by_cases y:k=1
 ·subst y;rw[VH j];have:=auN n t s u;exact⟨pd,hg,this.1,this.2,aj,aj,aj,aj⟩
 ·by_cases A:k=2
  ·subst A;rw[VI j];have:=auO n t s u;exact⟨pd,hg,aj,aj,this.1,this.2.1,this.2.2.1,this.2.2.2⟩
  ·rw[Xw j y A];refine⟨?_,hg,aj,aj,aj,aj,aj,aj⟩;simp only[bU];omega
theorem Uu{b:List UInt8}{m:bK}(h:sf b=some m):oQ m:=by
 unfold sf at h;split at h
 ·injection h with h;rw[<- h];exact avV _ _ _ _
 ·cases h
abbrev bZ(a:av):Array Value:=#[.int .i64 a.1,.int .u64 (a.2.1:Int),.int .u64 (a.2.2:Int)]
abbrev fk(v:fG):Array Value:=#[.int .i64 v.id.1,.int .u64 (v.id.2.1:Int),.int .u64 (v.id.2.2:Int),.bool v.yes]
def jW:cF fG where
 size:=4
 rel v cs _:=cs=(fk v).toList
 len:=by rintro _ _ _ rfl;rfl
 one:=by rintro x _ _ rfl u i;simp at i;rcases i with rfl|rfl|rfl|rfl <;> rfl
 st:=by rintro _ _ _ _ h _;exact h
abbrev fH(m:bK)(v1 v2 v3 v4 v5 v6:Value):Array Value:=#[.int .i64 m.kind,.int .u64 (m.got:Int),v1,v2,v3,v4,v5,v6]
def js(m:bK)(v:Value)(w:World):Prop:=∃u j s i t h,v=.agg (fH m u j s i t h)/\ar jW m.bM u w/\ar aQ m.asks j w/\ar aQ m.entries s w/\ar aQ m.cH i w/\ar bI m.bY t w/\ar bI m.ends h w
theorem Xx{m:bK}{v:Value}{w w':World}(h:js m v w)(k:K w w'):js m v w':=by obtain⟨E,A,C,y,D,j,e,t,u,B,i,s,h6⟩:=h;exact⟨E,A,C,y,D,j,e,aW t k,aW u k,aW B k,aW i k,aW s k,aW h6 k⟩
theorem abl(a:av)(w:World) :
 Calls prog 89 #[.agg (bZ a)] w λe w'=>e=.returned (.bool (oh a))/\K w w':=by
 obtain⟨i,j,s⟩:=a
 have k1:K w (w.alloc (.cells (bZ (i,j,s)) 46)):=(K.rf w).al _
 have HR:Hid (oh (i,j,s)=(decide (0<=i)&&decide (i<16))):=ae rfl
 generalize oh (i,j,s)=R at *
 by_cases h0:(0:Int)<=i
 ·by_cases h1:i<(16:Int)
  ·exact afO
  ·exact afO
 ·go_enter func89,ntmps89;go_wp2;go_ret;exact⟨by rw[HR.aa];simp;intro;omega,k1⟩
theorem apT(x:fG)(w:World) :
 Calls prog 88 #[.agg (fk x)] w λe w'=>e=.returned (.bool (sc x))/\K w w':=by
 have j:K w (w.alloc (.cells (fk x) 117)):=(K.rf w).al _
 have HR:Hid (sc x=oh x.id):=ae rfl
 go_enter func88,ntmps88
 go_wp2_with fail
 generalize w.alloc _=i at *
 refine (abl x.id i).mono ?_
 rintro e t⟨rfl,s⟩
 go_wp2
 go_ret
 exact⟨fo,j.tr s⟩
theorem ara(x:aq)(v:Value)(w:World)(h:cR x v w) :
 Calls prog 90 #[v] w λe w'=>e=.returned (.bool (bP x))/\K w w':=by
 obtain⟨vf,E,rfl,s,j⟩:=h
 obtain⟨B,C,rfl⟩:=cB s
 obtain⟨y,A,rfl⟩:=az j
 have i:K w (w.alloc (.cells (aA x (.slice B x.f.length C) (.slice y x.es.length A)) 102)):=(K.rf w).al _
 have u:=ae (JU x _ _ ⟨_,_,rfl,dB _ _ _ _ s i,aW j i⟩)
 clear s j
 go_enter func90,ntmps90
 go_wp2_with fail
 generalize w.alloc _=D at *
 refine u.aa.mono ?_
 rintro e F⟨rfl,t⟩
 cases hok:bP x
 ·rw[EX hok];go_wp2;go_ret;exact⟨by simp[hok],i.tr t⟩
 ·rw[Hz hok];go_wp2;go_ret;exact⟨by simp[hok],i.tr t⟩
theorem aoE(l:List fG)(v:Value)(w:World)(h:ar jW l v w) :
 Calls prog 92 #[v,.func (Fn.func 88) #[] #[]] w λe w'=>e=.returned (.bool (ki sc l))/\K w w':=by
 obtain⟨A,c,rfl,L,N⟩:=h
 have HI:Hid (ki sc l=(decide (l.length<=16)&&l.all sc)):=ae rfl
 generalize ki sc l=R at *
 have kk:=K.rf w
 go_enter func92,ntmps92
 by_cases fT:l.length<=16
 rotate_left
 ·exact VJ
 have ug:¬(16:Int)<(l.length:Int):=af
 go_wp2_with fail
 go_loopw [6,12] (fun _ i wr=>∃j:Nat,j<=l.length/\i=.int .i64 (j:Int)/\Hid ((l.take j).all sc=true)/\K w wr) (fun _ i _=>l.length-(intOf i).toNat)
 case atStart=>exact⟨0,af,rfl,ae aj,kk⟩
 case round =>
  clear kk;obtain⟨j,Q,rfl,HT,kr⟩:=hrel;by_cases B:j<l.length
  ·have ba:(j:Int)<(l.length:Int):=af;obtain⟨E,C,cs,rfl,F,y,t,d⟩:=dM L j B au;have HS:=ae (Df sc l j B);generalize l[j]=x at *;obtain rfl:=y w (K.rf w);have t:∀W,K wr W->W.cell? ⟨E,C+j*4,none⟩=some (.int .i64 x.id.1):=λW s=>t W (kr.tr s)
   have d:∀W,K wr W->∀i,i<4->W.cell? ⟨E,C+j*4+i,none⟩=(fk x)[i]?:=λW s i J=>(d W (kr.tr s) i J).trans Array.getElem?_toList
   have kk:=K.rf wr;have u:=ai.new wr 117 (fk x);have H:K wr (wr.alloc (.cells (fk x) 117)):=(K.rf wr).al _;clear F y;go_upto_region 6 with (fail);have I:=kr.tr H;generalize wr.alloc _=D at *;generalize wr.heap.size=M at *;have q:=u.cells;have kk:=K.rf D;clear t d u;go_wp2_with fail
   refine (apT x D).mono ?_;rintro e O⟨rfl,G⟩;have qE:=I.tr G;cases hq:sc x
   ·have HR:Hid (R=false):=ae (by
     have h1:(l.take (j+1)).all sc=false:=KF;rw[HI.aa,Hu sc l (j+1) h1];simp)
    clear q;exact Pc
   ·have kJ:Hid ((l.take (j+1)).all sc=true):=ae KH;clear q;exact Pd
  ·exact Pe
theorem S8(l:List aq)(v:Value)(w:World)(h:ar aQ l v w) :
 Calls prog 93 #[v,.func (Fn.func 90) #[] #[]] w λe w'=>e=.returned (.bool (ki bP l))/\K w w':=by
 obtain⟨A,c,rfl,T,V⟩:=h
 have HI:Hid (ki bP l=(decide (l.length<=16)&&l.all bP)):=ae rfl
 generalize ki bP l=R at *
 have kk:=K.rf w
 go_enter func93,ntmps93
 by_cases fT:l.length<=16
 rotate_left
 ·exact VJ
 have ug:¬(16:Int)<(l.length:Int):=af
 go_wp2_with fail
 go_loopw [6,12] (fun _ i wr=>∃j:Nat,j<=l.length/\i=.int .i64 (j:Int)/\Hid ((l.take j).all bP=true)/\K w wr) (fun _ i _=>l.length-(intOf i).toNat)
 case atStart=>exact⟨0,af,rfl,ae aj,kk⟩
 case round =>
  clear kk;obtain⟨j,Z,rfl,HT,kr⟩:=hrel;by_cases H:j<l.length
  ·have ba:(j:Int)<(l.length:Int):=af;obtain⟨M,I,cs,rfl,N,F,C,d⟩:=dM T j H au;have HS:=ae (Df bP l j H);generalize l[j]=x at *;obtain⟨vf,X,rfl,L,G⟩:=F w (K.rf w);obtain⟨u,B,rfl⟩:=cB L;obtain⟨t,D,rfl⟩:=az G;have C:∀W,K wr W->W.cell? ⟨M,I+j*8,none⟩=some (.int .i64 x.kind):=λW y=>C W (kr.tr y)
   have d:∀W,K wr W->∀i,i<8->W.cell? ⟨M,I+j*8+i,none⟩=(aA x (.slice u x.f.length B) (.slice t x.es.length D))[i]?:=λW y i S=>(d W (kr.tr y) i S).trans Array.getElem?_toList
   have kk:=K.rf wr;have E:=ai.new wr 102 (aA x (.slice u x.f.length B) (.slice t x.es.length D));have Q:K wr (wr.alloc (.cells (aA x (.slice u x.f.length B) (.slice t x.es.length D)) 102)):=(K.rf wr).al _;clear N F;go_upto_region 6 with (fail);have s:=kr.tr Q;generalize wr.alloc _=J at *;generalize wr.heap.size=U at *;have q:=E.cells;have kk:=K.rf J;clear C d E;go_wp2_with fail
   refine (ara x _ J ⟨_,_,rfl,dB _ _ _ _ L s,aW G s⟩).mono ?_;rintro e Y⟨rfl,O⟩;have qE:=s.tr O;cases hq:bP x
   ·have HR:Hid (R=false):=ae (by
     have h1:(l.take (j+1)).all bP=false:=KF;rw[HI.aa,Hu bP l (j+1) h1];simp)
    clear q;exact Pc
   ·have kJ:Hid ((l.take (j+1)).all bP=true):=ae KH;clear q;exact Pd
  ·exact Pe
theorem abm(l:List av)(v:Value)(w:World)(h:ar bI l v w) :
 Calls prog 94 #[v,.func (Fn.func 89) #[] #[]] w λe w'=>e=.returned (.bool (ki oh l))/\K w w':=by
 obtain⟨A,c,rfl,L,N⟩:=h
 have HI:Hid (ki oh l=(decide (l.length<=16)&&l.all oh)):=ae rfl
 generalize ki oh l=R at *
 have kk:=K.rf w
 go_enter func94,ntmps94
 by_cases fT:l.length<=16
 rotate_left
 ·exact VJ
 have ug:¬(16:Int)<(l.length:Int):=af
 go_wp2_with fail
 go_loopw [6,12] (fun _ i wr=>∃j:Nat,j<=l.length/\i=.int .i64 (j:Int)/\Hid ((l.take j).all oh=true)/\K w wr) (fun _ i _=>l.length-(intOf i).toNat)
 case atStart=>exact⟨0,af,rfl,ae aj,kk⟩
 case round =>
  clear kk;obtain⟨j,Q,rfl,HT,kr⟩:=hrel;by_cases B:j<l.length
  ·have ba:(j:Int)<(l.length:Int):=af;obtain⟨E,C,cs,rfl,F,y,t,d⟩:=dM L j B au;have HS:=ae (Df oh l j B);generalize l[j]=x at *;obtain rfl:=y w (K.rf w);have t:∀W,K wr W->W.cell? ⟨E,C+j*3,none⟩=some (.int .i64 x.1):=λW s=>t W (kr.tr s)
   have d:∀W,K wr W->∀i,i<3->W.cell? ⟨E,C+j*3+i,none⟩=(bZ x)[i]?:=λW s i J=>(d W (kr.tr s) i J).trans Array.getElem?_toList
   have kk:=K.rf wr;have u:=ai.new wr 46 (bZ x);have H:K wr (wr.alloc (.cells (bZ x) 46)):=(K.rf wr).al _;clear F y;go_upto_region 6 with (fail);have I:=kr.tr H;generalize wr.alloc _=D at *;generalize wr.heap.size=M at *;have q:=u.cells;have kk:=K.rf D;clear t d u;go_wp2_with fail
   refine (abl x D).mono ?_;rintro e O⟨rfl,G⟩;have qE:=I.tr G;cases hq:oh x
   ·have HR:Hid (R=false):=ae (by
     have h1:(l.take (j+1)).all oh=false:=KF;rw[HI.aa,Hu oh l (j+1) h1];simp)
    clear q;exact Pc
   ·have kJ:Hid ((l.take (j+1)).all oh=true):=ae KH;clear q;exact Pd
  ·exact Pe
theorem aw9{m:bK}(h:m.kind=1):zl m=(m.entries.isEmpty&&m.cH.isEmpty&&m.bY.isEmpty&&m.ends.isEmpty):=by unfold zl;rw[if_pos h]
theorem axa{m:bK}(h:m.kind=2):zl m=(m.bM.isEmpty&&m.asks.isEmpty):=by unfold zl;rw[if_neg (by omega),if_pos h]
theorem axb{m:bK}(h:¬m.kind=1)(i:¬m.kind=2):zl m=false:=by unfold zl;rw[if_neg h,if_neg i]
theorem P7{α:Type}{l:List α}(h:l.isEmpty=false):((l.length:Int)==0)=false:=by rw[IL,h]
theorem IG{α:Type}{l:List α}(h:l.isEmpty=true):((l.length:Int)==0)=true:=by rw[IL,h]
theorem aa6(m:bK)(v:Value)(w:World)(h:js m v w) :
 Calls prog 45 #[v] w λe w'=>e=.returned (.int .i64 (ig m))/\K w w':=by
 obtain⟨J,G,H,L,I,O,rfl,j,h2,h3,h4,h5,h6⟩:=h
 have CV:=ae λW (i:K w W)=>aoE m.bM J W (aW j i)
 have CA:=ae λW (i:K w W)=>S8 m.asks G W (aW h2 i)
 have CE:=ae λW (i:K w W)=>S8 m.entries H W (aW h3 i)
 have CP:=ae λW (i:K w W)=>S8 m.cH L W (aW h4 i)
 have CB:=ae λW (i:K w W)=>abm m.bY I W (aW h5 i)
 have CD:=ae λW (i:K w W)=>abm m.ends O W (aW h6 i)
 obtain⟨F,c1,rfl⟩:=az j
 obtain⟨B,c2,rfl⟩:=az h2
 obtain⟨D,c3,rfl⟩:=az h3
 obtain⟨A,c4,rfl⟩:=az h4
 obtain⟨u,c5,rfl⟩:=az h5
 obtain⟨E,t,rfl⟩:=az h6
 clear j h2 h3 h4 h5 h6
 have s:=ai.new w 41 (fH m (.slice F m.bM.length c1) (.slice B m.asks.length c2) (.slice D m.entries.length c3) (.slice A m.cH.length c4) (.slice u m.bY.length c5) (.slice E m.ends.length t))
 have k1:K w (w.alloc (.cells (fH m (.slice F m.bM.length c1) (.slice B m.asks.length c2) (.slice D m.entries.length c3) (.slice A m.cH.length c4) (.slice u m.bY.length c5) (.slice E m.ends.length t)) 41)):=(K.rf w).al _
 go_enter func45,ntmps45
 go_upto_region 2 with (fail)
 generalize w.alloc _=w1 at *
 have Q:=s.cells
 have kk:=K.rf w1
 generalize w.heap.size=g at *
 clear s
 by_cases C:m.kind=1
 ·have BS:=aw9 C;cases e3:m.entries.isEmpty
  ·exact afP
  have z3:=IG e3;cases e4:m.cH.isEmpty
  ·exact afQ
  have z4:=IG e4;cases e5:m.bY.isEmpty
  ·have N:=P7 e5;have HQ:Hid (ig m=130):=ae (by unfold ig;rw[show ed m=false from by simp[ed,BS,e5]];rfl);exact Pf
  have N:=IG e5;cases e6:m.ends.isEmpty
  ·have M:=P7 e6;have HQ:Hid (ig m=130):=ae (by unfold ig;rw[show ed m=false from by simp[ed,BS,e6]];rfl);exact Pf
  have M:=IG e6;have hK:zl m=true:=by rw[BS,e3,e4,e5,e6];rfl
  exact afR
 by_cases y:m.kind=2
 ·have BS:=axa y;cases e3:m.bM.isEmpty
  ·exact afP
  have z3:=IG e3;cases e4:m.asks.isEmpty
  ·exact afQ
  have z4:=IG e4;have hK:zl m=true:=by rw[BS,e3,e4];rfl
  exact afR
 have hK:=axb C y
 have HQ:Hid (ig m=130):=ae (by unfold ig;rw[show ed m=false from by simp[ed,hK]];rfl)
 go_wp2
 go_ret
 exact⟨jL,k1⟩
def iw(p:List Int):Bool:=decide (1<=p.length)&&decide (p.length<=16)&&decide (p[0]?=some (-1))&&(List.range p.length).all λn=>n==0||match p[n]? with|some q=>decide (0<=q)&&decide (q<(n:Int))|none=>true
def jd(p:List Int)(n:Int):Bool:=decide (0<=n)&&decide (n<(p.length:Int))
def qT(p:List Int)(n:Int):List Int:=((List.range p.length).filter λk=>decide (p[k]?=some n)).map λ(k:Nat)=>(k:Int)
def Fw(p:List Int)(n:Int):List Int:=if jd p n&&iw p then qT p n else []
def Ch(p:List Int)(a:Int):Nat->Int->Bool
 | 0,_=>false
 | f+1,b=>if b<0 then false else if a=b then true else Ch p a f ((p[b.toNat]?).getD (-1))
def Ci(p:List Int)(a b:Int):Bool:=jd p a&&jd p b&&iw p&&Ch p a (p.length+1) b
structure dZ where
 cl:Int
 sub:Nat
 f:List bc
 deriving DecidableEq
def jk(s:dZ)(x:aq):Int:=if gM s.cl x.cl != 0 then gM s.cl x.cl else gM s.sub x.sub
def sY(l:List dZ)(x:aq):List dZ :=
 if x.kind=2 then l.filter (λs=>decide (jk s x<0))++[⟨x.cl,x.sub,x.f⟩]++l.filter (λs=>decide (0<jk s x))
 else if x.kind=3 then l.filter (λs=>decide (jk s x<0))++l.filter (λs=>decide (0<jk s x))else l
def kO(l:List aq):List dZ:=l.foldl (λo x=>if x.kind=1 then o else sY o x) []
def p7(l:List dZ)(cs:List Int):List dZ:=l.filter λs=>decide (s.cl∈cs)
def anyS(l:List dZ)(e:List bh):Bool:=l.any λs=>lT s.f e
def kj(l:List dZ)(cs:List Int)(x:aq):aq:=if x.kind=1 then { x with es:=x.es.filter (anyS (p7 l cs)) }else x
def qQ(l:List dZ)(c:Int)(x:aq):List (List bh):=if x.kind=1 then x.es.filter (anyS (p7 l [c]))else []
def pY(k:bK)(a:av)(y:Bool):Bool:=k.bM.any λv=>decide (v=⟨a,y⟩)
def jv(kids:List bK)(a:av):Int:=if kids.any (λk=>pY k a false)then 2 else if kids.all (λk=>pY k a true)then 1 else 0
def pR(kids:List bK)(o:List fG)(x:aq):List fG:=if jv kids (ax x)≠0/\o.length<16 then o++[⟨ax x,decide (jv kids (ax x)=1)⟩]else o
def lU(o:List fG)(a:av):List fG:=if 16<=o.length then o else if o.any (λv=>decide (v.id=a))then o else o++[⟨a,false⟩]
def Lm(prom:List aq)(refused:List av)(kids:List bK):List fG:=refused.foldl lU (prom.foldl (pR kids) [])
def iR(s:bA)(p:List aq×List av)(x:aq):List aq×List av :=
 if cA s.list (ax x)||cA s.prom (ax x)||dx s.ab (ax x)||cA p.1 (ax x)||dx p.2 (ax x)then p
 else if s.prom.length+p.1.length<6 then (p.1++[x],p.2)else (p.1,p.2++[ax x])
def nV(s:bA)(l:List aq):List aq×List av:=l.foldl (iR s) ([],[])
def kP(s:bA)(op:List aq)(o:List av)(v:fG):List av :=
 if 16<=o.length then o else if dx o v.id||cA s.list v.id||cA s.prom v.id||cA op v.id then o else o++[v.id]
def tW(s:bA)(op:List aq)(k:bK):List av:=k.bM.foldl (kP s op) []
def kM(s:bA)(p:List aq×List aq)(x:aq):List aq×List aq :=
 if cA s.list (ax x)||dx s.ab (ax x)||cA p.1 (ax x)||cA p.2 (ax x)then p
 else if x.kind≠1 then (p.1,p.2++[x])else if p.1.length<4 then (p.1++[x],p.2)else p
def oG(s:bA)(op asks:List aq):List aq×List aq:=asks.foldl (kM s) (op,[])
def DZ(op:List aq)(kids:List bK):List aq:=op.filter λx=>decide (jv kids (ax x)=1)
def Cj(op:List aq)(kids:List bK):List av:=(op.filter λx=>decide (jv kids (ax x)=2)).map ax
def pk(ab:List av)(o:List av)(x:aq):List av:=if o.length<16/\dx ab (ax x)=true/\dx o (ax x)=false then o++[ax x]else o
def tX(ab:List av)(asks:List aq):List av:=asks.foldl (pk ab) []
def y9(l:List aq)(n:Nat):List aq:=(l.drop n).take 4
structure lq where
 gU:List Rec
 room:Nat
def wW(b:List UInt8):Nat:=6+b.length
def jw(l:List Rec):Nat:=(l.map λr=>wW (bV r)).sum
def vX(d:lq)(r:Rec):Bool:=decide ((bV r).length<=4000)&&decide (jw d.gU+wW (bV r)<=d.room)
structure aB where
 me:Int
 par:List Int
 aZ:List Int
 st:bA
 aK:List bz
 calls:Nat
 bR:List (Int×bK)
 refused:List av
 told:List av
 waits:List aq
 dk:lq
def Bm(B:aB)(c:Int):Bool:=decide (0<=c)&&decide (c<(B.aZ.length:Int))&&decide (B.aZ[c.toNat]?=some B.me)
def jO(B:aB):Bool:=decide (B.me=0)
def iI(B:aB)(k:Int):bK:=((B.bR.find? λp=>decide (p.1=k)).map (·.2)).getD xQ
def nA(l:List (Int×bK))(k:Int)(m:bK):List (Int×bK):=if l.any (λp=>decide (p.1=k))then l.map λp=>if p.1=k then (k,m)else p else l++[(k,m)]
def mF(B:aB):List Int:=Fw B.par B.me
def cZ(B:aB):List bK:=(mF B).map (iI B)
def sS(B:aB)(a:av):Bool:=dx B.told a||dx B.st.ab a
def Bo(B:aB):List av:=B.st.ab++B.told
def jP(B:aB)(o:List aq)(x:aq):List aq:=if cA o (ax x)||cA B.st.list (ax x)||sS B (ax x)||decide (16<=o.length)then o else o++[x]
def lY(B:aB):List aq:=(cZ B).foldl (λo k=>k.asks.foldl (jP B) o) ((jj B.aK).foldl (jP B) [])
def dt(B:aB)(r:Rec):aB×Bool :=
 if gh r&&vX B.dk r then (match fh B.st r with
  | none=>(B,false)
  | some t=>({ B with st:=t,dk:=⟨B.dk.gU++[r],B.dk.room⟩,aK:=if r.kind=2 then fc B.aK (ax r.e)else B.aK },true))
 else (B,false)
def lI(n:Nat)(x:aq):Rec:=⟨2,n,x,0,0,0⟩
def jy(k:Int)(a:av):Rec:=⟨k,0,eW,a.1,a.2.1,a.2.2⟩
def s8(x:aq):Rec:=⟨3,0,x,0,0,0⟩
def mG(B:aB)(x:aq):aB×Bool:=dt B (lI B.st.list.length x)
def nB(B:aB)(a:av):aB×Bool:=if (dt B (jy 4 a)).2 then ({ (dt B (jy 4 a)).1 with aK:=fc (dt B (jy 4 a)).1.aK a },true)else (B,false)
def kQ(kids:List bK)(p:aB×List aq)(x:aq):aB×List aq :=
 if jv kids (ax x)=1 then (if (mG p.1 x).2 then ((mG p.1 x).1,p.2)else (p.1,p.2++[x]))
 else if jv kids (ax x)=2 then (if (nB p.1 (ax x)).2 then ((nB p.1 (ax x)).1,p.2)else (p.1,p.2++[x]))
 else (p.1,p.2++[x])
def xI(B:aB):aB:=(oG B.st B.waits (lY B)).2.foldl (λb x=>(mG b x).1) B
def oK(B:aB):aB×List aq:=(oG B.st B.waits (lY B)).1.foldl (kQ (cZ B)) (xI B,[])
def ic(B:aB):aB:=if jO B then { (oK B).1 with waits:=(oK B).2 }else B
def kT(B:aB)(h:Nat):List aq->aB
 | []=>B
 | x :: r=>if h=B.st.list.length then (if (dt B (lI h x)).2 then kT (dt B (lI h x)).1 ((h+1)%18446744073709551616) r else B)
  else kT B ((h+1)%18446744073709551616) r
def ji(B:aB)(a:av):aB:=if cA B.st.prom a then (dt B (jy 5 a)).1 else B
def mT(B:aB)(a:av):aB:=if sS B a then B else ji { B with told:=B.told++[a],aK:=fc B.aK a } a
def iD(p:aB×List av)(x:aq):aB×List av:=if (dt p.1 (s8 x)).2 then ((dt p.1 (s8 x)).1,p.2)else (p.1,p.2++[ax x])
def mi(B:aB)(l:List aq):List aq:=l.filter λx=>!dx B.told (ax x)
def s9(B:aB)(l:List aq):List av:=(l.filter λx=>dx B.told (ax x)).map ax
def rX(B:aB)(l:List aq):aB×List av:=(nV B.st (mi B l)).1.foldl iD (B,s9 B l++(nV B.st (mi B l)).2)
def sZ(B:aB)(l:List aq):aB:={ (rX B l).1 with refused:=(rX B l).2 }
def qU(B:aB)(m:bK):aB:=sZ (m.ends.foldl ji (m.bY.foldl mT (kT B m.got m.entries))) m.cH
def uo(B:aB):Int:=(B.par[B.me.toNat]?).getD (-1)
def jM(B:aB)(fr:Int)(b:List UInt8):aB×Int :=
 if decide (fr∈mF B)||(!jO B&&decide (fr=uo B))then
  (match sf b with
   | none=>(B,130)
   | some m=>if decide (fr∈mF B)&&decide (m.kind=1)then (ic { B with bR:=nA B.bR fr m },0)
    else if (!jO B&&decide (fr=uo B))&&decide (m.kind=2)then (qU B m,0)else (B,201))
 else (B,201)
def tO(B:aB)(k:Int):List Int:=((List.range B.aZ.length).filter λc=>match B.aZ[c]? with|some h=>Ci B.par k h|none=>false).map λ(c:Nat)=>(c:Int)
def Bv(B:aB)(cs:List Int)(n:Nat)(l:List aq):List aq:=l.zipIdx.map λp=>kj (kO (B.st.list.take (n+p.2))) cs p.1
def oL(B:aB)(k:Int):Nat:=min (iI B k).got B.st.list.length
def xu(B:aB)(k:Int):bK :=
 ⟨2,oL B k,[],[],Bv B (tO B k) (oL B k) (y9 B.st.list (oL B k)),((if jO B then B.waits else B.st.prom).take 16).map (kj (kO B.st.list) (tO B k)),tX (Bo B) (iI B k).asks,tW B.st B.waits (iI B k)⟩
def Dx(B:aB):bK:=⟨1,B.st.list.length,Lm B.st.prom B.refused (cZ B),lY B,[],[],[],[]⟩
def pz(B:aB):av:=(B.me,B.st.life,B.calls+1)
def lF(B:aB)(c:Int)(h:List bz×Int):aB×av×Int :=
 if Bm B c then (if h.2=0 then ({ B with aK:=h.1,calls:=B.calls+1 },pz B,0)else (B,(0,0,0),h.2))else (B,(0,0,0),200)
def pS(B:aB)(c:Int):aB×av×Int:=lF B c (vV B.aK (pz B) c)
def p8(B:aB)(k c:Int)(n:Nat)(f:List bc):aq:=⟨k,B.me,B.st.life,B.calls+1,c,n,f,[]⟩
def qZ(B:aB)(c:Int)(n:Nat)(f:List bc):aB×av×Int:=lF B c (s6 B.aK (p8 B 2 c n f))
def gF(B:aB)(r:List bz×Int):aB×Int:=if r.2=0 then ({ B with aK:=r.1 },0)else (B,r.2)
def Dy(B:aB)(a:av):Int :=
 if cA B.st.list a then 3 else if sS B a then 4 else if (vW B.aK a).2 then (if (vW B.aK a).1.asked then 2 else 1)else 0
def oM(c:Int):List aq->List dZ->Nat->List (List bh)×Nat
 | [],_,n=>([],n)
 | x :: r,s,n=>if qQ s c x=[]then oM c r (if x.kind=1 then s else sY s x) (n+1)else (qQ s c x,n+1)
def tY(B:aB)(c fr:Int):List (List bh)×Int×Int :=
 if Bm B c then (if 0<=fr/\fr<=(B.st.list.length:Int)then ((oM c (B.st.list.drop fr.toNat) (kO (B.st.list.take fr.toNat)) fr.toNat).1,((oM c (B.st.list.drop fr.toNat) (kO (B.st.list.take fr.toNat)) fr.toNat).2:Int),0)else ([],0,1))else ([],0,200)
def dS(s:bA):bA:=⟨(s.life+1)%18446744073709551616,s.list,s.prom,s.ab⟩
def tc(p aZ:List Int):Bool:=decide (1<=aZ.length)&&decide (aZ.length<=32)&&aZ.all (jd p)
