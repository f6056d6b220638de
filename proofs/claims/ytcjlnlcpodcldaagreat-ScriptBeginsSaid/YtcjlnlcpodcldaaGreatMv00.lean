/-
  Scripts (layer 22) in plain Lean: what ops are told; beginnings of scripts; looks between ops; scripts that ask for nothing. Conditions: none.
-/
import Derived.Test.YtcjlnlcpodcldaaGreatMt00
import Derived.Test.YtcjlnlcpodcldaaGreatMsz
set_option maxRecDepth 100000
set_option maxHeartbeats 16000000
set_option linter.all false
namespace Go.Proofs.YtcjlnlcpodcldaaGreat
open Go Go.RowKit _root_.Go.Proofs.Tryz
open List renaming length→Q
open _root_.Array renaming size→Z
open Go.World renaming heap→D,alloc→aU,setCell→aV
open Go.Value renaming ownBlock→aW
open Go.Value renaming int→G,slice→F,pointer→aj,bool→ar,tuple→au,agg→av,string→aw
open Go.IntKind renaming i64→J,u64→E
open Option renaming none→U,some→I
open Go.Ending renaming returned→ak
open Go.Obj renaming cells→aq
open Go.World renaming setCell→ax,alloc→ay
open Bool renaming false→az,true→aA
open And renaming intro→aB
open List renaming lookup→aC,getElem?_eq_getElem→aE,getElem?_eq_some_iff→aF
open _root_.Array renaming getElem?_toList→aD,getElem?_eq_some_iff→aG
open Nat renaming le_succ→aH
open Or renaming inl→aI,inr→aJ
open Go renaming Calls→aK,execOp→aL,bodyPost_ret→aM,World→aP,Value→aQ
open Go.RowKit renaming Below→aN,intOf→aO
theorem ag6 par bj room ops n(z:Q ops<=500):(i7 par bj room (ops.take n)).2=(i7 par bj room ops).2/\(i7 par bj room (ops.take n)).1=(i7 par bj room ops).1.take n:=by
 have key:∀(l:List eI) n s,jS s (l.take n)=(jS s l).take n:=by
  intro l
  induction l with
  | nil=>intro n s;simp[jS]
  | cons x l y =>
   intro n s
   cases n with
   | zero=>simp[jS]
   | succ n=>simp[jS,y]
 have j:¬500<Q (ops.take n):=bG
 have t:¬500<Q ops:=aZ
 simp only[i7,bO j,bO t]
 grind
theorem ahP{par bj room l}(h:(i7 par bj room l).2=0):Q (i7 par bj room l).1=Q l:=by
 grind [i7,Hp]
theorem asu par bj(r:Nat)(ops:List eI)(n:Int) v0 v1 v3 w(h0:bw eu par v0 w)(h1:bw eu bj v1 w)(hr:r<=65535)(h3:bw ly ops v3 w)(hfit:∀c∈ops,uB c) :
 aK prog 4 #[v0,v1,G .u16 r,v3,G J n] w λe w'=>e=ak (ar aA)/\K w w':=by
 have C1:=aY λW=>QN W
 have C:=aY λW (k:K w W)=>cH h0 k
 have H:=aY λW (k:K w W)=>cH h1 k
 have H3:=aY λW (k:K w W)=>cH h3 k
 have HF:=aY hfit
 have:J.wrap (r:Int)=r:=EA
 obtain⟨A0,c0,rfl⟩:=bD h0
 obtain⟨A1,c1,rfl⟩:=bD h1
 obtain⟨A3,c3,rfl⟩:=bD h3
 go_in
 go_wp2_with fail
 refine (C1.aX w).mono ?_
 rintro e w1⟨rfl,k1⟩
 go_wp2_with fail
 refine (WC A0 (Q par) c0 A1 (Q bj) c1 w1).mono ?_
 rintro e w2⟨rfl,rfl⟩
 by_cases hs:Q par<=6/\Q bj<=8
 case neg => exact aan
 have gH:(decide (Q par<=6)&&decide (Q bj<=8))=true:=Th
 rw[gH]
 by_cases hn0:n<0
 ·go_wp2;go_ret;exact⟨rfl,k1⟩
 by_cases mH:500<Q ops
 ·exact amN
 have abI:¬(500:Int)<Q ops:=aZ
 have C2:=aY (afx ops 60 _ w2 (H3.aX w2 k1) aZ)
 have:Q (xq ops 60)<=60:=ahL aZ
 have N:=aY (ahM (n:=60) HF.aX)
 have M:=aY (ahO (l:=ops) (n:=60))
 have L:=aY (show sN (xq ops 60)<=40000 from cI (RT _) aZ)
 generalize xq ops 60=f at *
 go_wp2_with fail
 refine C2.aX.mono ?_
 rintro e j⟨v4,rfl,z,k3⟩
 obtain⟨A4,c4,rfl⟩:=bD z
 have t:=k1.tr k3
 have:Q f<=c4:=by obtain⟨_,_,e,-,h⟩:=z;injection e with _ _ e;omega
 by_cases hnl:(Q f:Int)<n
 ·go_upto_region 9 with fail;have X:=aY (Em par bj r f _ _ _ j (C.aX j t) (H.aX j t) z N.aX hs.1 aZ aZ L.aX M.aX);have HT:=aY λW (k:K j W)=>M3 (cH z k) (Q f) aZ
  have S:=aY (ag6 par bj r f (Q f) aZ);have HE:=aY (Nf (par:=par) (bj:=bj) (room:=r) (l:=f));have HE2:=aY (Nf (par:=par) (bj:=bj) (room:=r) (l:=f.take (Q f)));have Y:=aY (ahP (par:=par) (bj:=bj) (room:=r) (l:=f));have V:=aY λW (k:K j W)=>Em par bj r (f.take (Q f)) _ _ _ W (C.aX W (t.tr k)) (H.aX W (t.tr k)) (HT.aX W k) (λc y=>N.aX c (lB y)) hs.1 aZ aZ (cI (Xg f (Q f)) L.aX) (λc y=>M.aX c (lB y))
  generalize i7 par bj r f=R1 at *;generalize i7 par bj r (f.take (Q f))=R2 at *;go_wp2_with fail
  refine X.aX.mono ?_;rintro e O⟨v5,rfl,mH,R,A⟩;obtain⟨A5,c5,rfl⟩:=bD mH;have nc:=aY (aB mH R);have kB:=t.tr A;go_wp2_with fail
  refine (V.aX O A).mono ?_;rintro e w5⟨v6,rfl,uI,aE9,B⟩;have DH:=kB.tr B;have La:=S.aX;by_cases hok:R1.2=0
  case neg => exact amO
  have zY:R2.2=0:=La.1.trans hok;have T:=Y.aX hok;have ei:((Q R1.1:Int) != (Q f:Int))=false:=by rw[T];simp
  rw[La.2]at uI;have mH:=nc.aX.1;obtain⟨A6,c6,rfl⟩:=bD uI;have e6:Q (R1.1.take (Q f))=Q f:=bG;rw[e6]at uI⊢;have h7:=M3 (cH mH B) (Q f) aZ;have CS:=aY (WU (R1.1.take (Q f)) _ _ w5 h7 uI (λx hx=>nc.aX.2 x (lB hx)) aZ);have zy:Q R1.1<=c5:=amP;have aFa:((Q f:Nat):Int)<=c5:=aZ;exact amQ
 ·obtain⟨m,rfl⟩:=Int.eq_ofNat_of_zero_le (show 0<=n by omega);have:m<=Q f:=aZ;have:(m:Int)<=c4:=aZ;go_upto_region 9 with fail;have X:=aY (Em par bj r f _ _ _ j (C.aX j t) (H.aX j t) z N.aX hs.1 aZ aZ L.aX M.aX);have HT:=aY λW (k:K j W)=>M3 (cH z k) m aZ
  have S:=aY (ag6 par bj r f m aZ);have HE:=aY (Nf (par:=par) (bj:=bj) (room:=r) (l:=f));have HE2:=aY (Nf (par:=par) (bj:=bj) (room:=r) (l:=f.take m));have Y:=aY (ahP (par:=par) (bj:=bj) (room:=r) (l:=f));have V:=aY λW (k:K j W)=>Em par bj r (f.take m) _ _ _ W (C.aX W (t.tr k)) (H.aX W (t.tr k)) (HT.aX W k) (λc y=>N.aX c (lB y)) hs.1 aZ aZ (cI (Xg f m) L.aX) (λc y=>M.aX c (lB y))
  generalize i7 par bj r f=R1 at *;generalize i7 par bj r (f.take m)=R2 at *;go_wp2_with fail
  refine X.aX.mono ?_;rintro e O⟨v5,rfl,mH,R,A⟩;obtain⟨A5,c5,rfl⟩:=bD mH;have nc:=aY (aB mH R);have kB:=t.tr A;go_wp2_with fail
  refine (V.aX O A).mono ?_;rintro e w5⟨v6,rfl,uI,aE9,B⟩;have DH:=kB.tr B;have La:=S.aX;by_cases hok:R1.2=0
  case neg => exact amO
  have zY:R2.2=0:=La.1.trans hok;have T:=Y.aX hok;have ei:((Q R1.1:Int) != (Q f:Int))=false:=by rw[T];simp
  rw[La.2]at uI;have mH:=nc.aX.1;obtain⟨A6,c6,rfl⟩:=bD uI;have e6:Q (R1.1.take m)=m:=bG;rw[e6]at uI⊢;have h7:=M3 (cH mH B) m aZ;have CS:=aY (WU (R1.1.take m) _ _ w5 h7 uI (λx hx=>nc.aX.2 x (lB hx)) aZ);have zy:Q R1.1<=c5:=amP;have aFa:((m:Nat):Int)<=c5:=aZ;exact amQ
theorem arP(t j A y z:aQ)(w:aP)(L:Ij w t)(M:Ij w j)(C:aaA w A)(B:Tx w y)(H:Tw w z) :
 aK prog 4 #[t,j,A,y,z] w λe w'=>e=ak (ar aA)/\aN (Z (D w)) w w':=by
 obtain⟨par,O,-⟩:=L
 obtain⟨bj,P,-⟩:=M
 obtain⟨r,rfl,N⟩:=C
 obtain⟨ops,R,S,-⟩:=B
 obtain⟨n,rfl,-⟩:=H
 grind [asu]
