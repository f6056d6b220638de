/-
  Scripts (layer 22) in plain Lean: what ops are told; beginnings of scripts; looks between ops; scripts that ask for nothing. Conditions: none.
-/
import Derived.Test.YtcjlnlcpodcldaaGreatMt00
import Derived.Test.YtcjlnlcpodcldaaGreatMsz
set_option maxRecDepth 100000
set_option maxHeartbeats 16000000
set_option linter.all false
namespace Go.Proofs.YtcjlnlcpodcldaaGreat
open Go Go.RowKit _root_.Go.Proofs.Tryz
open List renaming length→Q
open _root_.Array renaming size→Z
open Go.World renaming heap→D,alloc→aU,setCell→aV
open Go.Value renaming ownBlock→aW
open Go.Value renaming int→G,slice→F,pointer→aj,bool→ar,tuple→au,agg→av,string→aw
open Go.IntKind renaming i64→J,u64→E
open Option renaming none→U,some→I
open Go.Ending renaming returned→ak
open Go.Obj renaming cells→aq
open Go.World renaming setCell→ax,alloc→ay
open Bool renaming false→az,true→aA
open And renaming intro→aB
open List renaming lookup→aC,getElem?_eq_getElem→aE,getElem?_eq_some_iff→aF
open _root_.Array renaming getElem?_toList→aD,getElem?_eq_some_iff→aG
open Nat renaming le_succ→aH
open Or renaming inl→aI,inr→aJ
open Go renaming Calls→aK,execOp→aL,bodyPost_ret→aM,World→aP,Value→aQ
open Go.RowKit renaming Below→aN,intOf→aO
def xR(a:Int):eI:=⟨17,a,0,0,[],[]⟩
def wV(a n:Int):eI:=⟨15,a,0,n,[],[]⟩
def xS:eI:=⟨16,-1,0,0,[],[]⟩
def nv(a n:Int)(l:List eI):List eI:=l.flatMap λx=>[x,xR a,wV a n,xS]
theorem ayz s a:(fZ s (xR a)).1=s:=rfl
theorem ayA s a n:(fZ s (wV a n)).1=s:=by simp only[fZ,wV];cases qZ s.2 n <;> rfl
theorem ayB s:(fZ s xS).1=s:=by rfl
theorem ag7 a n:∀(l:List eI) s,Q (jS s (nv a n l))=4*Q l/\∀i,i<Q l->(jS s (nv a n l))[4*i]?=(jS s l)[i]?
 | [],s=>⟨rfl,λi h=>sH⟩
 | x :: l,s=>by
  have e:jS s (nv a n (x :: l))=(fZ s x).2 :: (fZ (fZ s x).1 (xR a)).2 :: (fZ (fZ s x).1 (wV a n)).2 :: (fZ (fZ s x).1 xS).2 :: jS (fZ s x).1 (nv a n l):=by show jS s (x :: xR a :: wV a n :: xS :: nv a n l)=_;simp only[jS,ayz,ayA,ayB]
  obtain⟨t,j⟩:=ag7 a n l (fZ s x).1
  rw[e]
  refine⟨by simp[t];omega,λi hi=>?_⟩
  cases i with
  | zero=>rfl
  | succ i => simp only[jS,Nat.mul_succ,List.getElem?_cons_succ];exact j i Nn
theorem ag8 a n:∀l,sN (nv a n l)<=591*Q l
 | []=>bL _
 | x :: l=>by have:=ag8 a n l;have:=ahN x;have e:sN (nv a n (x :: l))=xi x+(1+(1+(1+sN (nv a n l)))):=rfl;rw[e,fY];omega
theorem XX a n(l:List eI):Q (nv a n l)=4*Q l:=by
 induction l with
 | nil=>rfl
 | cons x l j => show Q (x :: xR a :: wV a n :: xS :: nv a n l)=_;simp only[fY,j];omega
theorem ayC{par bj room l} a n(C:Q l<=40):(i7 par bj room (nv a n l)).2=(i7 par bj room l).2/\Q (i7 par bj room (nv a n l)).1=4*Q (i7 par bj room l).1 /\
 ∀i,i<Q (i7 par bj room l).1->(i7 par bj room (nv a n l)).1[4*i]?=(i7 par bj room l).1[i]?:=by
 have y:¬500<Q (nv a n l):=by rw[XX];omega
 have A:¬500<Q l:=aZ
 simp only[i7,bO y,bO A]
 by_cases j:mD par bj room=0
 ·simp only[bT j];obtain⟨B,t⟩:=ag7 a n l (lZ par bj room,[]);rw[Hp l];exact⟨trivial,B,t⟩
 ·simp only[bO j];exact⟨trivial,rfl,λi z=>by cases z⟩
theorem aB2{par bj room l}:Q (i7 par bj room l).1<=Q l:=by
 unfold i7;split
 ·exact eO _
 ·split
  ·exact Nat.le_of_eq (Hp _ _)
  ·exact eO _
theorem ayD{l:List eI}{j a n}(t:j<Q l):nv a n (l.take (j+1))=nv a n (l.take j)++[l[j],xR a,wV a n,xS]:=by unfold nv;rw[ix t,List.flatMap_append];rfl
theorem ahS{l:List eI}{a n c}(h:c∈nv a n l):c∈l∨c=xR a∨c=wV a n∨c=xS:=by obtain⟨x,j,h⟩:=List.mem_flatMap.1 h;simp only[List.mem_cons,List.not_mem_nil,or_false]at h;exact h.imp (λe=>by rw[e];exact j) id
abbrev Um(x:eI)(ve vf:aQ)(a n:Int):Array aQ:=#[G J x.kind,G J x.a,G J x.b,G J x.n,ve,vf,G J 17,G J a,G J 0,G J 0,F U 0 0,F U 0 0,G J 15,G J a,G J 0,G J n,F U 0 0,F U 0 0,G J 16,G J (-1),G J 0,G J 0,F U 0 0,F U 0 0]
theorem aAF{M:Nat->Prop}{wr:aP}{x:eI}{ve vf:aQ}{a n:Int}{T}(z:∀W,bf M (aU wr (aq (Um x ve vf a n) T)) W->ly.rel x (im x ve vf).toList W)(B:¬M (Z (D wr))) :
 ky M ly [x,xR a,wV a n,xS] (F (I ⟨Z (D wr),0,U⟩) 4 4) (aU wr (aq (Um x ve vf a n) T)):=by
 have hb:=bn.new wr T (Um x ve vf a n)
 refine⟨_,_,[(im x ve vf).toList,(im (xR a) (F U 0 0) (F U 0 0)).toList,(im (wV a n) (F U 0 0) (F U 0 0)).toList,(im xS (F U 0 0) (F U 0 0)).toList],rfl,bL _,⟨rfl,λ_=>⟨_,0,rfl,hb.lt,λj u A=>?_⟩⟩,rfl,λ_ _ b C e=>?_,λW u=>?_⟩
 ·rw[ng,hb.cell j];exact aD.symm.trans A
 ·cases e;exact B
 ·have t:iT [] (F U 0 0) W:=⟨U,0,rfl,Reads.nil _ _ _ _⟩;have y:fQ [] (F U 0 0) W:=⟨U,0,rfl,Reads.nil _ _ _ _⟩;exact ((((Each.nil ly W).snoc (z W u)).snoc (x:=xR a) ⟨_,_,rfl,t,y⟩).snoc (x:=wV a n) ⟨_,_,rfl,t,y⟩).snoc (x:=xS) ⟨_,_,rfl,t,y⟩
theorem ata par bj(r:Nat)(ops:List eI)(a n:Int) v0 v1 v3 w(h0:bw eu par v0 w)(h1:bw eu bj v1 w)(hr:r<=65535)(h3:bw ly ops v3 w)(hfit:∀c∈ops,uB c)(ha:cV a)(hn:cV n) :
 aK prog 5 #[v0,v1,G .u16 r,v3,G J a,G J n] w λe w'=>e=ak (ar aA)/\K w w':=by
 have C1:=aY λW=>QN W
 have H0:=aY λW (k:K w W)=>cH h0 k
 have H1:=aY λW (k:K w W)=>cH h1 k
 have H3:=aY λW (k:K w W)=>cH h3 k
 have HF:=aY hfit
 have HAN:=aY (aB ha hn)
 have:J.wrap (r:Int)=r:=EA
 obtain⟨A0,c0,rfl⟩:=bD h0
 obtain⟨A1,c1,rfl⟩:=bD h1
 obtain⟨A3,c3,rfl⟩:=bD h3
 clear h0 h1 h3 hfit ha hn
 go_in
 go_wp2_with fail
 refine (C1.aX w).mono ?_
 rintro e w1⟨rfl,k1⟩
 go_wp2_with fail
 refine (WC A0 (Q par) c0 A1 (Q bj) c1 w1).mono ?_
 rintro e w2⟨rfl,rfl⟩
 by_cases hs:Q par<=6/\Q bj<=8
 case neg => exact aan
 have gH:(decide (Q par<=6)&&decide (Q bj<=8))=true:=Th
 rw[gH]
 by_cases mH:500<Q ops
 ·exact amN
 have abI:¬(500:Int)<Q ops:=aZ
 have C2:=aY (afx ops 40 _ w2 (H3.aX w2 k1) aZ)
 have dM:Q (xq ops 40)<=40:=ahL aZ
 have Hc:=aY (ahM (n:=40) HF.aX)
 have j8:=aY (ahO (l:=ops) (n:=40))
 generalize xq ops 40=f at *
 go_wp2_with fail
 refine C2.aX.mono ?_
 rintro e A⟨v4,rfl,jy,k3⟩
 obtain⟨A4,c4,rfl,aoN,aoO⟩:=jy
 have kA:=k1.tr k3
 have GW:=aY aoN
 have HC4:=aY aoO
 have Y:=bK.nil (λ_=>False) (Z (D A)) 39 ly A
 have kk:=K.rf A
 clear C2 k1 k3 C1 aoN aoO mH abI H3 HF
 go_wp2_with fail
 go_loopw [15,16] (fun o i W=>∃j:Nat,j<=Q f/\i=G J j/\bK (fun _=>False) (Z (D A)) 39 ly (nv a n (f.take j)) o W/\K A W) (fun _ i _=>Q f-(aO i).toNat)
 case atStart=>exact⟨0,eO _,rfl,Y,kk⟩
 case round =>
  clear Y kk;obtain⟨j,hj,rfl,y,kr⟩:=hrel;obtain⟨Ao,co,rfl⟩:=y.slice;by_cases O:j<Q f
  case pos =>
   have cd:(j:Int)<Q f:=aZ;have oX:=aY (ayD (a:=a) (n:=n) O);have hlm:Q (nv a n (f.take j))<=160:=by rw[XX,qN];omega
   obtain⟨b3,o3,cc,rfl,-,C,V,d⟩:=eN GW.aX j O bC;generalize f[j]=x at *;generalize nv a n (f.take j)=ag at *;obtain⟨ve,vf,rfl,H,hf⟩:=C A (K.rf A);have HX:=aY (show ly.rel x (im x ve vf).toList A from ⟨ve,vf,rfl,H,hf⟩);obtain⟨Ae,ce,rfl⟩:=tc H;obtain⟨Af,cf,rfl⟩:=dK hf;have q9:∀i,i<6->wr.cell? ⟨b3,o3+j*6+i,U⟩=(im x (F Ae (Q x.e) ce) (F Af (Q x.f) cf))[i]?:=λi hi=>(d wr kr i hi).trans aD
   have q0:wr.cell? ⟨b3,o3+j*6,U⟩=I (G J x.kind):=V wr kr;clear C V d H hf;have B:=K.new wr (aq (Um x (F Ae (Q x.e) ce) (F Af (Q x.f) cf) a n) 39);have jh:=y.st B;have dt:=y.blk;have hr:=aAF (M:=λb=>False∨aW (F Ao (Q ag) co)=I b) (wr:=wr) (x:=x) (ve:=F Ae (Q x.e) ce) (vf:=F Af (Q x.f) cf) (a:=a) (n:=n) (T:=39) (λX u=>ly.st HX.aX (u.k (kr.tr B) λb hb=>(dt b (hb.resolve_left id)).1)) (λh=>by have:=(dt _ (h.resolve_left id)).2;omega);have hz:=kr.size;go_wp2_with (at_builtin;refine Q7 rfl _ _ 25 rfl _ 6 80 Qx rfl rfl jh _ rfl hr ?p2 ?p3 ?_)
   case p2=>omega
   case p3=>exact cI hz (aH _)
   intro v9 w9 cR dF fO cN;have kF:=(kr.tr B).trans cN;exact amT
  case neg =>
   obtain rfl:j=Q f:=aZ;rw[nN]at y⊢;have hlm:Q (nv a n f)=4*Q f:=XX ..;have L:=kA.tr kr;have jy:bw ly f (F A4 (Q f) c4) wr:=⟨A4,c4,rfl,N4 GW.aX kr,HC4.aX⟩;have hlo:=y.bw;have C3:=aY (Em par bj r f _ _ _ wr (H0.aX wr L) (H1.aX wr L) jy Hc.aX hs.1 aZ aZ (cI (RT f) aZ) j8.aX);have C4:=aY λW (k:K wr W)=>Em par bj r (nv a n f) _ _ _ W (H0.aX W (L.tr k)) (H1.aX W (L.tr k)) (cH hlo k) (λc hc=>by
    rcases ahS hc with h|rfl|rfl|rfl
    ·exact Hc.aX c h
    ·simpa [uB,xR,cV]using HAN.aX.1
    ·simpa [uB,wV,cV]using HAN.aX
    ·simp[uB,xS,cV]) hs.1 aZ aZ (cI (ag8 a n f) aZ) (λc hc=>by
     rcases ahS hc with h|rfl|rfl|rfl
     ·exact j8.aX c h
     ·exact⟨(λh=>by simp[xR]at h),λh=>by simp[xR]at h⟩
     ·exact⟨(λh=>by simp[wV]at h),λh=>by simp[wV]at h⟩
     ·exact⟨(λh=>by simp[xS]at h),λh=>by simp[xS]at h⟩)
   have HM:=aY (ayC (par:=par) (bj:=bj) (room:=r) (l:=f) a n dM);have HLe:=aY (aB2 (par:=par) (bj:=bj) (room:=r) (l:=f));generalize i7 par bj r f=t at *;generalize i7 par bj r (nv a n f)=R at *;generalize nv a n f=ag at *;clear y hlo jy Hc j8 HAN GW HC4 hlm;go_wp2_with fail
   refine C3.aX.mono ?_;rintro e w4⟨v5,rfl,mH,gG,k4⟩;obtain⟨A5,c5,rfl⟩:=bD mH;have nc:=aY (aB mH gG);have kC:=L.tr k4;clear mH gG;go_wp2_with fail
   refine (C4.aX w4 k4).mono ?_;rintro e z⟨v6,rfl,uI,-,k5⟩;have kD:=kC.tr k5;obtain⟨A6,c6,rfl,aoP,-⟩:=uI;have HL6:=aY aoP;have HL7:=aY (cH nc.aX.1 k5);have qF:=aY nc.aX.2;obtain⟨H,hle,hel⟩:=HM.aX;have Vg:=aY hel;have:Q t.1<=40:=cI HLe.aX dM;have:(t.2 != R.2)=false:=by simp[H]
   have:J.wrap (4*(Q t.1:Int))=4*Q t.1:=EA;have:((Q R.1:Int) != 4*(Q t.1:Int))=false:=by simp[hle]
   have HLI:=aY hle;clear aoP hel H hle HM HLe C3 C4 nc kC k4 k5 kr L;have Y:=bK.nil (λ_=>False) (Z (D z)) 45 vA z;have kk:=K.rf z;go_wp2_with fail
   go_loopw [21,22] (fun o i W=>∃j:Nat,j<=Q t.1/\i=G J j/\bK (fun _=>False) (Z (D z)) 45 vA (t.1.take j) o W/\K z W) (fun _ i _=>Q t.1-(aO i).toNat)
   case atStart=>exact⟨0,eO _,rfl,Y,kk⟩
   case round =>
    clear Y kk;obtain⟨j,hj,rfl,y,kt⟩:=hrel;obtain⟨Ag,cg,rfl⟩:=y.slice;by_cases O:j<Q t.1
    case pos =>
     have cd:(j:Int)<Q t.1:=aZ;obtain⟨m,hm⟩:∃m:Nat,m=4*j:=⟨_,rfl⟩;have zw:m<Q R.1:=by rw[HLI.aX];omega
     have:(m:Int)<Q R.1:=aZ;have:J.wrap (4*(j:Int))=m:=EA;have oX:=aY (ix O);have hx:R.1[m]=t.1[j]:=by have h:=Vg.aX j O;rw[<- hm,aE zw,aE O]at h;exact Option.some.inj h
     have:Q (t.1.take j)<=40:=amm;obtain⟨b3,o3,cc,rfl,-,C,V,d⟩:=eN HL6.aX m zw bC;rw[hx]at C;clear hx hm;generalize t.1[j]=x at *;generalize t.1.take j=aa at *;obtain⟨vb,rfl,hb⟩:=C z (K.rf z);have HX:=aY (show vA.rel x (iW x vb).toList z from ⟨vb,rfl,hb⟩);obtain⟨Ab,cb,rfl⟩:=bD hb;have q9:∀i,i<9->wr.cell? ⟨b3,o3+m*9+i,U⟩=(iW x (F Ab (Q x.batch) cb))[i]?:=λi hi=>(d wr kt i hi).trans aD
     have q0:wr.cell? ⟨b3,o3+m*9,U⟩=I (G J x.err):=V wr kt;clear C V d hb;have B:=K.new wr (aq (iW x (F Ab (Q x.batch) cb)) 45);have jh:=y.st B;have dt:=y.blk;have hr:=fL.new (S:=vA) (e:=45) (x:=x) (v:=av (iW x (F Ab (Q x.batch) cb))) (w:=wr) (N:=λb=>False∨aW (F Ag (Q aa) cg)=I b) (λX u=>vA.st HX.aX (u.k kt λb hb=>(dt b (hb.resolve_left id)).1)) 0 (eO _);have hz:=kt.size;go_wp2_with (at_builtin;refine kI rfl _ _ 28 rfl _ 9 88 TAn rfl rfl jh _ rfl _ hr ?p2 ?p3 ?_)
     case p2=>omega
     case p3=>exact cI hz (aH _)
     intro v9 w9 cR dF fO cN;have kF:=(kt.tr B).trans cN;exact amT
    case neg =>
     obtain rfl:j=Q t.1:=aZ;rw[nN]at y⊢;have kE:=kD.tr kt;have CS:=aY (WU t.1 _ _ wr (cH HL7.aX kt) y.bw qF.aX aZ);clear y kt kD;go_wp2_with fail
     refine CS.aX.mono ?_;rintro e w6⟨rfl,k6⟩;have kF:=kE.tr k6;clear CS kE k6;go_wp2;go_ret;exact⟨rfl,kF⟩
theorem arX(t j B y z A:aQ)(w:aP)(S:Ij w t)(W:Ij w j)(O:aaA w B)(M:Tx w y)(P:Tw w z)(H:Tw w A) :
 aK prog 5 #[t,j,B,y,z,A] w λe w'=>e=ak (ar aA)/\aN (Z (D w)) w w':=by
 obtain⟨par,L,-⟩:=S
 obtain⟨bj,N,-⟩:=W
 obtain⟨r,rfl,C⟩:=O
 obtain⟨ops,R,V,-⟩:=M
 obtain⟨a,rfl,T⟩:=P
 obtain⟨n,rfl,hn⟩:=H
 exact ata par bj r ops a n t j y w L N C R V T hn
