/-
  The walk of entry.Unpack (layer 11). Conditions: none.
-/
import Derived.Test.YtfndfpdhlbmboaaGreatMd06
import Derived.Deep.CutBlock
import Derived.Test.YtfndfpdhlbmboaaGreatMdz
set_option maxRecDepth 100000
set_option linter.constructorNameAsVariable false
set_option maxHeartbeats 16000000
set_option linter.unusedVariables false
set_option linter.unusedSimpArgs false
namespace Go.Proofs.YtfndfpdhlbmboaaGreat
open Go Go.RowKit _root_.Go.Proofs.Tryz
abbrev rP:Array Value:=#[.int .i64 0,.int .u64 0,.int .i64 0,.int .i64 0,.int .u64 0,.int .u64 0,.int .i64 0,.int .u64 0,.slice none 0 0,.slice none 0 0,.int .i64 0,.int .u64 0,.int .u64 0]
abbrev zRL:List Value:=[.int .i64 0,.int .u64 0,.int .i64 0,.int .i64 0,.int .u64 0,.int .u64 0,.int .i64 0,.int .u64 0,.slice none 0 0,.slice none 0 0,.int .i64 0,.int .u64 0,.int .u64 0]
theorem avw w:p6 Jj (.agg rP) w:=⟨_,_,rfl,⟨none,0,rfl,Reads.nil _ _ _ _⟩,gI _ _⟩
theorem acm{b}(h:nB b=none):um b=110/\ui b=Jj:=by simp[um,ui,h]
theorem Uu{b x}(h:nB b=some x):um b=0/\ui b=x:=by simp[um,ui,h]
theorem apI b k n H y G u(J:aw b false=(k,H,G))(I:aw H G=(n,y,u)) j(hk:min k 6=j) :
 ((j=2∨j=3)->∀bs F E,aL b.length y u=(bs,F,E)->(iL bs=none->nB b=none)/\∀e,iL bs=some e->nB b=if !E&&F.isEmpty&&dR ⟨j,n,e,0,0,0⟩then some ⟨j,n,e,0,0,0⟩else none) /\
 ((j=4∨j=5)->∀br t B D C,Cq y u=((br,t,B),D,C)->nB b=if !C&&D.isEmpty&&dR ⟨j,n,dD,br,t,B⟩then some ⟨j,n,dD,br,t,B⟩else none) /\
 (¬(j=2∨j=3)->¬(j=4∨j=5)->nB b=if !u&&y.isEmpty&&dR ⟨j,n,dD,0,0,0⟩then some ⟨j,n,dD,0,0,0⟩else none):=by
 subst hk
 refine⟨λh bs F E M=>⟨λhn=>?_,λe N=>?_⟩,λh br t B D C A=>?_,λh L=>?_⟩
 ·grind [aw,aL,iL,nB,dR,Cq,dD,nD]
 ·grind [nB,nD]
 ·have hn:¬(min k 6=2∨min k 6=3):=af;simp only[Cq,Prod.mk.injEq]at A;obtain⟨⟨rfl,rfl,rfl⟩,A⟩:=A;unfold nB nD;simp only[J,I,hn,if_false,h,if_true,A]
 ·unfold nB nD;simp only[J,I,h,L,if_false]
theorem apJ b v w(h:sl b v w)(hn:b.length<=1000000000) :
 Calls prog 119 #[v] w λe w' =>
  ∃v',e=.returned (.tuple #[v',.int .i64 (um b)])/\(∀W,aI w.heap.size none w' W->p6 (ui b) v' W)/\K w w':=by
 obtain⟨A,c,rfl,hR⟩:=h
 have dc:=ai.new w 197 rP
 have k0:=dc.aU
 have Bg:=(hR.below k0 (aD _)).more k0.size
 obtain⟨k,l1,e1,pr⟩:∃k l1 e1,aw b false=(k,l1,e1):=⟨_,_,_,rfl⟩
 obtain⟨n,C,F,r7⟩:∃k C F,aw l1 e1=(k,C,F):=⟨_,_,_,rfl⟩
 have hk6:min k 6<=6:=af
 have C1:=λg W h=>KF g b false 6 W h af
 have C2:=λg W h=>tj g l1 e1 W h
 have G:=apI b k n l1 C e1 F pr r7
 have ew:C.length<=b.length:=by have g1:=nV b false;have g2:=nV l1 e1;rw[pr]at g1;rw[r7]at g2;simp only at g1 g2;omega
 simp only[pr,r7]at C1 C2
 clear pr r7
 generalize hkk:min k 6=L at *
 replace G:=ae (G L rfl)
 replace C1:=ae C1
 replace C2:=ae C2
 clear hkk
 go_enter func119,ntmps119
 go_wp2_with fail
 generalize w.alloc _=w1 at *
 refine (KW A _ c b w1 _ Bg (aD _) hn).mono ?_
 rintro e w2⟨g,rfl,hg,kJ,k2⟩
 have bA:=dc.ay k2
 have hrg:=bz dc.lt hg
 replace k0:=k0.tr k2
 clear hR Bg hg k2 dc
 go_wp2_with fail
 refine (C1.aa g w2 kJ).mono ?_
 rintro e w3⟨rfl,hw3⟩
 have dN:=bA.went hw3 af
 have k3:K w w3:=k0.trans (lD hw3.2 af k0.size)
 have wO:=hw3.1
 have Mg:=wO.lt
 clear kJ bA hw3 k0
 go_wp2_with fail
 have D:DS w 197 rP w.heap.size g w3.heap.size l1 e1 #[.int .i64 L,.int .u64 0,.int .i64 0,.int .i64 0,.int .u64 0,.int .u64 0,.int .i64 0,.int .u64 0,.slice none 0 0,.slice none 0 0,.int .i64 0,.int .u64 0,.int .u64 0] (w3.alloc (.cells #[.int .i64 L,.int .u64 0,.int .i64 0,.int .i64 0,.int .u64 0,.int .u64 0,.int .i64 0,.int .u64 0,.slice none 0 0,.slice none 0 0,.int .i64 0,.int .u64 0,.int .u64 0] 197)) :=
  ⟨wO.al _,ai.new _ _ _,dN.alloc _,k3.al _,aD _,hrg,Mg⟩
 clear wO dN k3 Mg hrg
 generalize w3.alloc _=w4 at *
 generalize w3.heap.size=h at *
 refine (C2.aa g w4 D.rd).mono ?_
 rintro e w5⟨rfl,MS⟩
 replace D:=D.went MS
 clear MS
 have q:=D.x.cell
 have z:=D.x.frozen
 go_upto_region 4 with (fail)
 replace D:DS w 197 rP w.heap.size g h C F #[.int .i64 L,.int .u64 n,.int .i64 0,.int .i64 0,.int .u64 0,.int .u64 0,.int .i64 0,.int .u64 0,.slice none 0 0,.slice none 0 0,.int .i64 0,.int .u64 0,.int .u64 0] _:=D.sets 1 [.int .u64 n]
 simp only[ef,Nat.reduceAdd]at D
 clear q z C1 C2
 generalize w5.setCell _ _=R at *
 have RV:=D.o
 have MT:=D.x.lt
 have Mh:((b.length:Nat):Int)<=9223372036854775807:=af
 have q:=D.x.cell
 go_upto_block 0 with (fail)
 go_cut [6,7]from 18 to 39 (fun _ _ W=>∃(X:Rec) (l:List UInt8) (e:Bool) (vf ve:Value),DS w 197 rP w.heap.size g h l e (eY X vf ve) W /\
  (∀W',aI (h+1) none W W'->fF X.e.f vf W')/\(∀W',aI (h+1) none W W'->aq cO X.e.es ve W')/\Hid (nB b=if !e&&l.isEmpty&&dR X then some X else none))
 case first =>
  by_cases hk2:L=2
  ·subst hk2;replace D:DS w 197 rP w.heap.size g h C F #[.int .i64 2,.int .u64 n,.int .i64 0,.int .i64 0,.int .u64 0,.int .u64 0,.int .i64 0,.int .u64 0,.slice none 0 0,.slice none 0 0,.int .i64 0,.int .u64 0,.int .u64 0] R:=D;replace G:=ae (G.aa.1 ax);simp only[show ((2:Nat):Int)=2 from rfl]at G;go_wp2_with fail
   clear q;refine (KY g C F (b.length:Int) R D.rd af af Mh).mono ?_;rintro e wc⟨vb,rfl,Y,Q⟩;replace D:=D.went Q;have hlb:=IG (b.length:Int) C F;obtain⟨bs,N,O,hB⟩:∃bs N O,aL (b.length:Int) C F=(bs,N,O):=⟨_,_,_,rfl⟩;have HQ:=ae (G.aa bs N O hB);rw[hB]at Y D hlb;simp only at Y D hlb;clear Q hB G;have sQ:=D.x.lt;go_wp2_with fail
   refine (Ug bs _ _ Y af).mono ?_;rintro e wd⟨v9,rfl,hen,k9⟩;replace D:=D.gr k9;clear Y;obtain⟨vf,ve,rfl,GH,Bm⟩:=hen _ (aI.rf _ _ _);obtain⟨B,j,rfl⟩:=cA GH;obtain⟨y,t,rfl⟩:=av Bm;clear GH Bm;have lL:=ae hen;clear hen;have T:=ai.new wd 126 (aE (mr bs) (.slice B (mr bs).f.length j) (.slice y (mr bs).es.length t));have kE:=T.aU;have DE:=D.gr kE;cases lr:iL bs with
   | none => exact af1
   | some en =>
    have fU:=UE lr;rw[fU.2]at T kE DE lL;rw[fU.1,fU.2];have HD:=ae (HQ.aa.2 en lr);clear lr fU HQ D;go_upto_region 10 with (fail);have hgE:wd.heap.size<(wd.alloc (.cells (aE en (.slice B en.f.length j) (.slice y en.es.length t)) 126)).heap.size:=aj;generalize wd.alloc _=we at *;have D:=DE;clear DE;have q2:=T.cell;have q:=D.x.cell;have z:=D.x.frozen;go_wp2;replace D:DS w 197 rP w.heap.size g h N O #[.int .i64 2,.int .u64 n,.int .i64 en.kind,.int .i64 en.br,.int .u64 en.life,.int .u64 en.b6,.int .i64 en.cl,.int .u64 en.sub,.slice B en.f.length j,.slice y en.es.length t,.int .i64 0,.int .u64 0,.int .u64 0] _:=D.sets 2 [.int .i64 en.kind,.int .i64 en.br,.int .u64 en.life,.int .u64 en.b6,.int .i64 en.cl,.int .u64 en.sub,.slice B en.f.length j,.slice y en.es.length t];simp only[ef,Nat.reduceAdd]at D;have UX:=(aI.aT kE (h+1) none).tr (aI.sets (Nat.lt_succ_self h) [.int .i64 en.kind,.int .i64 en.br,.int .u64 en.life,.int .u64 en.b6,.int .i64 en.cl,.int .u64 en.sub,.slice B en.f.length j,.slice y en.es.length t] 2 _);simp only[ef,Nat.reduceAdd]at UX;have Yx:Hid (∀W',aI (h+1) none wd W'->dm en (.agg (aE en (.slice B en.f.length j) (.slice y en.es.length t))) W'):=ae λW' u=>lL.aa W' (u.more af (λ_ _ _=>aj))
    clear q q2 z lL T;generalize World.setCell _ _ _=M at *;have I:∀W',aI (h+1) none M W'->fF en.f (.slice B en.f.length j) W':=λW' u=>by exact af2
    have J:∀W',aI (h+1) none M W'->aq cO en.es (.slice y en.es.length t) W':=λW' u=>by exact af3
    go_wp2;go_meet
    case rel=>exact⟨(⟨2,n,en,0,0,0⟩:Rec),N,O,.slice B en.f.length j,.slice y en.es.length t,D,I,J,HD⟩
  by_cases jh:L=3
  ·subst jh;replace D:DS w 197 rP w.heap.size g h C F #[.int .i64 3,.int .u64 n,.int .i64 0,.int .i64 0,.int .u64 0,.int .u64 0,.int .i64 0,.int .u64 0,.slice none 0 0,.slice none 0 0,.int .i64 0,.int .u64 0,.int .u64 0] R:=D;replace G:=ae (G.aa.1 ax);simp only[show ((3:Nat):Int)=3 from rfl]at G;go_wp2_with fail
   clear q;refine (KY g C F (b.length:Int) R D.rd af af Mh).mono ?_;rintro e wc⟨vb,rfl,Y,Q⟩;replace D:=D.went Q;have hlb:=IG (b.length:Int) C F;obtain⟨bs,N,O,hB⟩:∃bs N O,aL (b.length:Int) C F=(bs,N,O):=⟨_,_,_,rfl⟩;have HQ:=ae (G.aa bs N O hB);rw[hB]at Y D hlb;simp only at Y D hlb;clear Q hB G;have sQ:=D.x.lt;go_wp2_with fail
   refine (Ug bs _ _ Y af).mono ?_;rintro e wd⟨v9,rfl,hen,k9⟩;replace D:=D.gr k9;clear Y;obtain⟨vf,ve,rfl,GH,Bm⟩:=hen _ (aI.rf _ _ _);obtain⟨B,j,rfl⟩:=cA GH;obtain⟨y,t,rfl⟩:=av Bm;clear GH Bm;have lL:=ae hen;clear hen;have T:=ai.new wd 126 (aE (mr bs) (.slice B (mr bs).f.length j) (.slice y (mr bs).es.length t));have kE:=T.aU;have DE:=D.gr kE;cases lr:iL bs with
   | none => exact af1
   | some en =>
    have fU:=UE lr;rw[fU.2]at T kE DE lL;rw[fU.1,fU.2];have HD:=ae (HQ.aa.2 en lr);clear lr fU HQ D;go_upto_region 10 with (fail);have hgE:wd.heap.size<(wd.alloc (.cells (aE en (.slice B en.f.length j) (.slice y en.es.length t)) 126)).heap.size:=aj;generalize wd.alloc _=we at *;have D:=DE;clear DE;have q2:=T.cell;have q:=D.x.cell;have z:=D.x.frozen;go_wp2;replace D:DS w 197 rP w.heap.size g h N O #[.int .i64 3,.int .u64 n,.int .i64 en.kind,.int .i64 en.br,.int .u64 en.life,.int .u64 en.b6,.int .i64 en.cl,.int .u64 en.sub,.slice B en.f.length j,.slice y en.es.length t,.int .i64 0,.int .u64 0,.int .u64 0] _:=D.sets 2 [.int .i64 en.kind,.int .i64 en.br,.int .u64 en.life,.int .u64 en.b6,.int .i64 en.cl,.int .u64 en.sub,.slice B en.f.length j,.slice y en.es.length t];simp only[ef,Nat.reduceAdd]at D;have UX:=(aI.aT kE (h+1) none).tr (aI.sets (Nat.lt_succ_self h) [.int .i64 en.kind,.int .i64 en.br,.int .u64 en.life,.int .u64 en.b6,.int .i64 en.cl,.int .u64 en.sub,.slice B en.f.length j,.slice y en.es.length t] 2 _);simp only[ef,Nat.reduceAdd]at UX;have Yx:Hid (∀W',aI (h+1) none wd W'->dm en (.agg (aE en (.slice B en.f.length j) (.slice y en.es.length t))) W'):=ae λW' u=>lL.aa W' (u.more af (λ_ _ _=>aj))
    clear q q2 z lL T;generalize World.setCell _ _ _=M at *;have I:∀W',aI (h+1) none M W'->fF en.f (.slice B en.f.length j) W':=λW' u=>by exact af2
    have J:∀W',aI (h+1) none M W'->aq cO en.es (.slice y en.es.length t) W':=λW' u=>by exact af3
    go_wp2;go_meet
    case rel=>exact⟨(⟨3,n,en,0,0,0⟩:Rec),N,O,.slice B en.f.length j,.slice y en.es.length t,D,I,J,HD⟩
  obtain⟨⟨br,H,E⟩,l5,e5,hI⟩:∃(i:aS) (l5:List UInt8) (e5:Bool),Cq C F=(i,l5,e5):=⟨_,_,_,rfl⟩;have Z:=λW h=>ab1 g C F W h
  have MY:=ae λh=>G.aa.2.1 h br H E l5 e5 hI
  rw[hI]at Z;simp only at Z;replace Z:=ae Z;clear hI;by_cases Sc:L=4
  ·subst Sc;replace D:DS w 197 rP w.heap.size g h C F #[.int .i64 4,.int .u64 n,.int .i64 0,.int .i64 0,.int .u64 0,.int .u64 0,.int .i64 0,.int .u64 0,.slice none 0 0,.slice none 0 0,.int .i64 0,.int .u64 0,.int .u64 0] R:=D;have HD:=ae (MY.aa ax);simp only[show ((4:Nat):Int)=4 from rfl]at HD;go_wp2_with fail
   clear q;refine (Z.aa R D.rd).mono ?_;rintro e wc⟨rfl,Q⟩;replace D:=D.went Q;clear Q G MY Z;have q:=D.x.cell;have z:=D.x.frozen;go_wp2;replace D:DS w 197 rP w.heap.size g h l5 e5 #[.int .i64 4,.int .u64 n,.int .i64 0,.int .i64 0,.int .u64 0,.int .u64 0,.int .i64 0,.int .u64 0,.slice none 0 0,.slice none 0 0,.int .i64 br,.int .u64 H,.int .u64 E] _:=D.sets 10 [.int .i64 br,.int .u64 H,.int .u64 E];simp only[ef,Nat.reduceAdd]at D;clear q z;generalize World.setCell _ _ _=M at *;have I:∀W',aI (h+1) none M W'->fF dD.f (.slice none 0 0) W':=λ_ _=>⟨none,0,rfl,Reads.nil _ _ _ _⟩
   have J:∀W',aI (h+1) none M W'->aq cO dD.es (.slice none 0 0) W':=λ_ _=>gI cO _
   go_wp2;go_meet
   case rel=>exact⟨(⟨4,n,dD,br,H,E⟩:Rec),l5,e5,.slice none 0 0,.slice none 0 0,D,I,J,HD⟩
  by_cases Zv:L=5
  ·subst Zv;replace D:DS w 197 rP w.heap.size g h C F #[.int .i64 5,.int .u64 n,.int .i64 0,.int .i64 0,.int .u64 0,.int .u64 0,.int .i64 0,.int .u64 0,.slice none 0 0,.slice none 0 0,.int .i64 0,.int .u64 0,.int .u64 0] R:=D;have HD:=ae (MY.aa ax);simp only[show ((5:Nat):Int)=5 from rfl]at HD;go_wp2_with fail
   clear q;refine (Z.aa R D.rd).mono ?_;rintro e wc⟨rfl,Q⟩;replace D:=D.went Q;clear Q G MY Z;have q:=D.x.cell;have z:=D.x.frozen;go_wp2;replace D:DS w 197 rP w.heap.size g h l5 e5 #[.int .i64 5,.int .u64 n,.int .i64 0,.int .i64 0,.int .u64 0,.int .u64 0,.int .i64 0,.int .u64 0,.slice none 0 0,.slice none 0 0,.int .i64 br,.int .u64 H,.int .u64 E] _:=D.sets 10 [.int .i64 br,.int .u64 H,.int .u64 E];simp only[ef,Nat.reduceAdd]at D;clear q z;generalize World.setCell _ _ _=M at *;have I:∀W',aI (h+1) none M W'->fF dD.f (.slice none 0 0) W':=λ_ _=>⟨none,0,rfl,Reads.nil _ _ _ _⟩
   have J:∀W',aI (h+1) none M W'->aq cO dD.es (.slice none 0 0) W':=λ_ _=>gI cO _
   go_wp2;go_meet
   case rel=>exact⟨(⟨5,n,dD,br,H,E⟩:Rec),l5,e5,.slice none 0 0,.slice none 0 0,D,I,J,HD⟩
  have HD:=ae (G.aa.2.2 af af);clear G MY Z;have I:∀W',aI (h+1) none R W'->fF dD.f (.slice none 0 0) W':=λ_ _=>⟨none,0,rfl,Reads.nil _ _ _ _⟩
  have J:∀W',aI (h+1) none R W'->aq cO dD.es (.slice none 0 0) W':=λ_ _=>gI cO _
  have g2:((L:Int)==2)=false:=ba;have g3:((L:Int)==3)=false:=ba;have g4:((L:Int)==4)=false:=ba;have g5:((L:Int)==5)=false:=ba;go_wp2;go_wp2;go_meet
  case rel=>exact⟨(⟨L,n,dD,0,0,0⟩:Rec),C,F,.slice none 0 0,.slice none 0 0,D,I,J,HD⟩
 case rest =>
 clear D q
 obtain⟨⟨S,V,en,br,H,E⟩,l,e,vf,ve,D,I,J,HD⟩:=hcut
 obtain⟨B,j,rfl⟩:=cA (I _ (aI.rf _ _ _))
 obtain⟨y,t,rfl⟩:=av (J _ (aI.rf _ _ _))
 have RV:=D.o
 simp only at D I J
 have GQ:=cA (I _ (aI.rf _ _ _))
 have HES:=av (J _ (aI.rf _ _ _))
 have U:=aI.rf (h+1) none wc
 have Bk:Hid ((∀W',aI (h+1) none wc W'->fF (Rec.e (⟨S,V,en,br,H,E⟩:Rec)).f (.slice B en.f.length j) W')/\∀W',aI (h+1) none wc W'->aq cO (Rec.e (⟨S,V,en,br,H,E⟩:Rec)).es (.slice y en.es.length t) W'):=ae ⟨I,J⟩
 clear I J
 go_wp2_with fail
 refine (KM g _ _ _ D.rd).mono ?_
 rintro e w'⟨rfl,rfl⟩
 have HB:Hid ((!e&&l.isEmpty&&dR (⟨S,V,en,br,H,E⟩:Rec))=false->um b=110/\ui b=Jj):=ae λh=>acm P7
 have HG:Hid ((!e&&l.isEmpty&&dR (⟨S,V,en,br,H,E⟩:Rec))=true->um b=0/\ui b=(⟨S,V,en,br,H,E⟩:Rec)):=ae λh=>Uu P7
 clear HD
 cases hd:(!e&&l.isEmpty)
 ·have HN:=ae (HB.aa VZ);have q:=D.rv.cell;have z:=D.rv.frozen;exact V2
 have q:=D.x.cell
 go_wp2_with fail
 refine (adE (⟨S,V,en,br,H,E⟩:Rec) _ _ ⟨_,_,rfl,Bk.aa.1 _ U,Bk.aa.2 _ U⟩).mono ?_
 rintro e wz⟨rfl,kz⟩
 replace D:=D.gr kz
 replace U:=U.tr (aI.aT kz _ _)
 cases hok:dR (⟨S,V,en,br,H,E⟩:Rec)
 ·have HN:=ae (HB.aa IU);clear q;have q:=D.rv.cell;have z:=D.rv.frozen;exact V2
 have HN:=ae (HG.aa IU)
 clear q
 have q:=D.rv.cell
 have z:=D.rv.frozen
 have q2:=D.x.cell
 go_wp2
 have hgo:=D.o
 have P9:=D.put [.int .i64 S,.int .u64 V,.int .i64 en.kind,.int .i64 en.br,.int .u64 en.life,.int .u64 en.b6,.int .i64 en.cl,.int .u64 en.sub,.slice B en.f.length j,.slice y en.es.length t,.int .i64 br,.int .u64 H,.int .u64 E] rfl
 simp only[ef,Nat.reduceAdd,mQ]at P9
 clear q q2 z
 generalize World.setCell _ _ _=W9 at *
 have e9:=P9.1.cell
 have U9:=U.tr P9.2.2
 refine bodyPost_ret (v:=.tuple #[.agg #[.int .i64 S,.int .u64 V,.int .i64 en.kind,.int .i64 en.br,.int .u64 en.life,.int .u64 en.b6,.int .i64 en.cl,.int .u64 en.sub,.slice B en.f.length j,.slice y en.es.length t,.int .i64 br,.int .u64 H,.int .u64 E],.int .i64 0]) af4 rfl ?_
 exact⟨_,P8,af0,P9.2.1⟩
def eJ(x:aK):Prop:=x.f.length<=1000000/\x.es.length<=1000000/\∀e∈x.es,e.length<=1000000
structure dA where
 life:Nat
 list:List aK
 prom:List aK
 ab:List aS
def bU:dA:=⟨0,[],[],[]⟩
def ar(x:aK):aS:=(x.br,x.life,x.b6)
def iP(x:Rec):aS:=(x.br,x.life,x.b6)
def bV(l:List aK)(a:aS):Bool:=l.any λx=>decide (ar x=a)
def dJ(l:List aS)(a:aS):Bool:=l.any λx=>decide (x=a)
def ja(l:List aK)(a:aS):List aK:=l.filter λx=>!decide (ar x=a)
def zo(s:dA)(r:Rec):Option dA:=if r.n<=s.life then none else some ⟨r.n,s.list,s.prom,s.ab⟩
def xR(s:dA)(r:Rec):Option dA:=if ¬r.n=s.list.length then none else if bV s.list (ar r.e)then none else if dJ s.ab (ar r.e)then none else some ⟨s.life,s.list++[r.e],ja s.prom (ar r.e),s.ab⟩
def xS(s:dA)(r:Rec):Option dA:=if bV s.list (ar r.e)then none else if bV s.prom (ar r.e)then none else if dJ s.ab (ar r.e)then none else some ⟨s.life,s.list,s.prom++[r.e],s.ab⟩
def xT(s:dA)(r:Rec):Option dA:=if bV s.list (iP r)then none else if dJ s.ab (iP r)then none else some ⟨s.life,s.list,ja s.prom (iP r),s.ab++[iP r]⟩
def zq(s:dA)(r:Rec):Option dA:=if bV s.prom (iP r)then some ⟨s.life,s.list,ja s.prom (iP r),s.ab⟩else none
def dZ(s:dA)(r:Rec):Option dA:=if r.kind=1 then zo s r else if r.kind=2 then xR s r else if r.kind=3 then xS s r else if r.kind=4 then xT s r else zq s r
def mR(s:dA)(r:Rec):dA×Int:=if dR r then (match dZ s r with|none=>(s,160)|some t=>(t,0))else (s,110)
structure eI where
 e:aK
 asked:Bool
 deriving DecidableEq
def jD(x:aK):aS:=(x.br,x.life,x.b6)
def Yf(x:aK):List UInt8:=if bJ x then eP x else []
def qQ(x:aK):Bool:=decide (3000<(Yf x).length)
def nK(a:aS)(t:eI):Bool:=decide (jD t.e=a)
def jn(l:List eI)(a:aS):Option Nat:=l.findIdx? (nK a)
def sD(l:List eI)(a:aS):Int:=match jn l a with|some k=>(k:Int)|none=>-1
def wg(l:List eI)(a:aS):Option Nat:=match jn l a with|some k=>if (l[k]?.map eI.asked)=some true then none else some k|none=>none
def Ej(l:List eI)(a:aS):Int:=match wg l a with|some k=>(k:Int)|none=>-1
def uE(l:List eI)(t:eI):List eI×Int :=
 if (jn l (jD t.e)).isSome then (l,170)else if bJ t.e=false then (l,110)else if 8<=l.length then (l,171)else if qQ t.e then (l,172)else (l++[t],0)
def lX(a:aS)(c:Int):aK:=⟨1,a.1,a.2.1,a.2.2,c,0,[],[]⟩
def vW(l:List eI)(a:aS)(c:Int):List eI×Int:=uE l ⟨lX a c,false⟩
def mS(x:aK)(e:List cZ):aK:={ x with es:=x.es++[e] }
def jm(l:List eI)(a:aS)(e:List cZ):List eI×Int :=
 match wg l a with
 | none=>(l,170)
 | some k=>match l[k]? with
  | none=>(l,170)
  | some t=>if fN e=false then (l,40)else if 8<=t.e.es.length then (l,171)else if qQ (mS t.e e)then (l,172)else (l.set k ⟨mS t.e e,t.asked⟩,0)
def jx(l:List eI)(a:aS):List eI×Int :=
 match wg l a with
 | none=>(l,170)
 | some k=>match l[k]? with
  | none=>(l,170)
  | some t=>(l.set k ⟨t.e,true⟩,0)
def fX(l:List eI)(a:aS):List eI:=match jn l a with|none=>l|some k=>l.eraseIdx k
def ajx(l:List eI)(a:aS):List eI×Int:=if (wg l a).isSome then (fX l a,0)else (l,170)
def xJ(l:List eI)(x:aK):List eI×Int:=uE l ⟨x,true⟩
def jb(l:List eI):List aK:=((l.filter eI.asked).map eI.e).take 4
def wu:eI:=⟨dD,false⟩
def tB(l:List eI)(a:aS):eI×Bool:=match l.find? (nK a)with|some t=>(t,true)|none=>(wu,false)
structure ay6 where
 kind:Int
 id:aS
 cl:Int
 e:List cZ
 x:aK
def ajT(l:List eI)(c:ay6):List eI×Int :=
 if c.kind=1 then vW l c.id c.cl else if c.kind=2 then jm l c.id c.e else if c.kind=3 then jx l c.id else if c.kind=4 then ajx l c.id
 else if c.kind=5 then xJ l c.x else if c.kind=6 then (fX l c.id,0)else (l,0)
structure jI(l:List eI):Prop where
 len:l.length<=8
 each:∀t∈l,bJ t.e=true/\cE t.e/\qQ t.e=false
 GR:∀(i j:Nat) (s t:eI),l[i]?=some s->l[j]?=some t->jD s.e=jD t.e->i=j
theorem KR{l a k}(h:jn l a=some k):∃t,l[k]?=some t/\jD t.e=a/\∀j,j<k->∀s,l[j]?=some s->jD s.e≠a:=by
 grind [jn,List.findIdx?_eq_some_iff_getElem,List.getElem?_eq_getElem,nK]
theorem acW{l a}(h:jn l a=none):∀t∈l,jD t.e≠a:=by
 grind [jn,jD,nK]
theorem aEv{l a}(A:jI l){k:Nat}{t}(hk:l[k]?=some t)(u:jD t.e=a):tB l a=(t,true):=by
 unfold tB
 cases hf:l.find? (nK a)with
 | none =>
  grind [jD,tB,nK]
 | some s =>
  have B:jD s.e=a:=by grind [nK]
  obtain⟨j,y⟩:=List.mem_iff_getElem?.1 (List.mem_of_find?_eq_some hf)
  have:=A.GR j k s t y hk (B.trans u.symm)
  grind
theorem arS{l a}(h:∀t∈l,jD t.e≠a):tB l a=(wu,false):=by
 grind [jD,tB,wu,nK]
theorem Pc{l a k}(h:wg l a=some k):∃t,l[k]?=some t/\jD t.e=a/\t.asked=false/\jn l a=some k:=by
 grind [wg,KR]
theorem jI.nil:jI []:=⟨aj,aj,aj⟩
theorem jI.set{l}(B:jI l){k t u}(hk:l[k]?=some t)(J:jD u.e=jD t.e)(D:bJ u.e=true/\cE u.e/\qQ u.e=false):jI (l.set k u):=by
 have H:=(List.getElem?_eq_some_iff.1 hk).1;refine⟨by simpa using B.len,λs y=>?_,λi j s r y F I=>?_⟩
 ·rcases List.mem_or_eq_of_mem_set y with y|rfl
  ·exact B.each s y
  ·exact D
 ·have key:∀(i:Nat) (s:eI),(l.set k u)[i]?=some s->∃A,l[i]?=some A/\jD A.e=jD s.e:=by
   grind
  obtain⟨A,G,L⟩:=key i s y;obtain⟨E,C,M⟩:=key j r F;exact B.GR i j A E G C aA
theorem jI.snoc{l}(y:jI l){t}(h8:l.length<8)(hn:∀s∈l,jD s.e≠jD t.e)(E:bJ t.e=true/\cE t.e/\qQ t.e=false):jI (l++[t]):=by
 refine⟨aA,λs u=>?_,λi j s r u B A=>?_⟩
 ·rcases List.mem_append.1 u with u|u
  ·exact y.each s u
  ·grind
 ·have key:∀(i:Nat) (s:eI),(l++[t])[i]?=some s->(i<l.length/\l[i]?=some s)∨(i=l.length/\s=t):=by
   grind
  rcases key i s u with ⟨G,D⟩|⟨rfl,rfl⟩
  ·rcases key j r B with ⟨F,C⟩|⟨rfl,rfl⟩
   ·exact y.GR i j s r D C A
   grind
  grind
theorem jI.erase{l}(y:jI l) k:jI (l.eraseIdx k):=by
 refine⟨bn (List.length_eraseIdx_le l k) y.len,λs t=>y.each s (List.mem_of_mem_eraseIdx t),λi j s r t u A=>?_⟩;rw[List.getElem?_eraseIdx]at t u;split at t <;> split at u
 ·exact y.GR i j s r t u A
 ·have:=y.GR i (j+1) s r t u A;omega
 ·have:=y.GR (i+1) j s r t u A;omega
 ·have:=y.GR (i+1) (j+1) s r t u A;omega
theorem Qa{l}(j:jI l) t(u:cE t.e):jI (uE l t).1:=by
 unfold uE;split
 ·exact j
 ·rename_i y;split
  ·exact j
  ·rename_i A;split
   ·exact j
   ·split
    ·exact j
    ·rename_i h8 hb;have hn:jn l (jD t.e)=none:=FQ;exact j.snoc af (acW hn) ⟨aA,u,aA⟩
theorem atv{x e}(h:bJ x=true)(hk:x.kind=1)(h8:x.es.length<8)(j:fN e=true):bJ (mS x e)=true:=by
 grind [bJ,fN,mS]
theorem aeq{l}(hl:jI l) c(hi:cD c.id.1/\c.id.2.1<18446744073709551616/\c.id.2.2<18446744073709551616)(hc:cD c.cl)(Q:∀a∈c.e,nJ a)(J:cE c.x)
 (C:∀t∈l,t.asked=false->t.e.kind=1):jI (ajT l c).1:=by
 unfold ajT
 split
 ·exact Qa hl _ awZ
 ·split
  ·unfold jm;split
   ·exact hl
   ·rename_i k hk;obtain⟨t,j,M,u,_⟩:=Pc hk;rw[j];simp only;split
    ·exact hl
    ·rename_i N;split
     ·exact hl
     ·rename_i h8;split
      ·exact hl
      ·rename_i hb;obtain⟨L,F,R⟩:=hl.each t (List.mem_of_getElem? j);refine hl.set j rfl ⟨atv L (C t (List.mem_of_getElem? j) u) af aA,?_,aA⟩;obtain⟨H,G,y,E,A,D,I,O⟩:=F;refine⟨H,G,y,E,A,D,I,?_⟩;intro e B;rcases List.mem_append.1 B with h|h;all_goals grind
  ·split
   ·unfold jx;split
    ·exact hl
    ·rename_i k hk;obtain⟨t,j,M,u,_⟩:=Pc hk;rw[j];exact hl.set j rfl (hl.each t (List.mem_of_getElem? j))
   ·split
    ·unfold ajx;exact af5
    ·split
     ·exact Qa hl _ J
     ·exact af5
section
open Go Go.RowKit Go.ChangeShapes Go.WideShapes Go.ChangeAt
abbrev gW(t:eI)(vf ve:Value):Array Value:=#[.int .i64 t.e.kind,.int .i64 t.e.br,.int .u64 (t.e.life:Int),.int .u64 (t.e.b6:Int),.int .i64 t.e.cl,.int .u64 (t.e.sub:Int),vf,ve,.bool t.asked]
def df:ei eI where
 size:=9
 rel t cs w:=∃vf j,cs=(gW t vf j).toList/\fF t.e.f vf w/\aq cO t.e.es j w
 len:=by rintro _ _ _⟨vf,j,rfl,_⟩;rfl
 one:=by rintro x _ _⟨vf,j,rfl,⟨A,c,rfl,_⟩,⟨D,d,rfl,_⟩⟩ u y;simp at y;rcases y with rfl|rfl|rfl|rfl|rfl|rfl|rfl|rfl|rfl <;> rfl
 st:=by rintro _ _ _ _⟨vf,j,rfl,C,B⟩ k;exact⟨vf,j,rfl,eO _ _ _ _ C k,bo B k⟩
def MZ(t:eI)(v:Value)(w:World):Prop:=∃vf j,v=.agg (gW t vf j)/\fF t.e.f vf w/\aq cO t.e.es j w
end
def wy(B:Nat)(x:aK)(v:Value)(w:World):Prop:=∃vf j,v=.agg (aE x vf j)/\fT w B vf x.f/\aX B B 51 cO x.es j w
theorem axa{B x v w}(h:wy B x v w):∀w',aI B none w w'->wy B x v w':=by obtain⟨vf,y,e,t,j⟩:=h;exact λw' u=>⟨vf,y,e,t.up u,j.up (aD _) u⟩
theorem avx{B x v w}(h:wy B x v w):dm x v w:=by obtain⟨vf,u,e,t,j⟩:=h;exact⟨vf,u,e,xA t,j.aq⟩
theorem KC x v w(h:dm x v w)(S:eJ x) :
 Calls prog 184 #[v] w λe w'=>∃v',e=.returned v'/\wy w.heap.size x v' w'/\K w w':=by
 have N:=ae func184
 have V:=ae ntmps184
 have zR:=ae results184
 obtain⟨vf,ve,rfl,X,he⟩:=h
 obtain⟨A,c,G,H⟩:=X
 obtain rfl:=G
 obtain⟨D,d,G,he,Q⟩:=he
 obtain rfl:=G
 obtain⟨T,R,J⟩:=S
 obtain⟨k,b,l,s,cl,u,f,es⟩:=x
 simp only at H he Q T R J⊢
 have B:=(ai.new w 126 (aE ⟨k,b,l,s,cl,u,f,es⟩ (.slice A f.length c) (.slice D es.length d))).alloc (.cells eQ 126)
 have E:=ai.new (w.alloc (.cells (aE ⟨k,b,l,s,cl,u,f,es⟩ (.slice A f.length c) (.slice D es.length d)) 126)) 126 eQ
 have I:=K.lW w (.cells (aE ⟨k,b,l,s,cl,u,f,es⟩ (.slice A f.length c) (.slice D es.length d)) 126) (.cells eQ 126)
 have hz:(w.alloc (.cells (aE ⟨k,b,l,s,cl,u,f,es⟩ (.slice A f.length c) (.slice D es.length d)) 126)).heap.size=w.heap.size+1:=aj
 rw[hz]at E
 clear hz
 have GU:=ae J
 clear J
 go_enter N.aa,V.aa
 go_upto_region 1 with (fail)
 generalize World.alloc (World.alloc w _) _=w1 at *
 have O:=(H.below I (aD _)).more I.size
 have Y:=E.lt
 clear H
 have q:=B.cell
 have z:=B.frozen
 go_wp2_with (at_builtin;refine iW rfl _ _ 53 rfl w1.heap.size 73 _ 5 56 TF _ 0 [] rfl (kU _ _ _ _) _ A f.length c (f.flatMap fR) rfl O (IA f) ?p1 (aD _) ?_)
 case p1=>omega
 intro U t F _ _ aN
 have C:=B.ay aN
 have L:=E.ay aN
 have M:=I.tr aN
 obtain⟨A1,c1,rfl,-⟩:=(show fT t w1.heap.size U f from F).slice
 clear q z B E
 have q:=C.cell
 have z:=C.frozen
 have Z:=aN.size
 clear aN
 go_upto_region 3 with (fail)
 have eE:ai (t.setCell ⟨w.heap.size,6,none⟩ (.slice A1 f.length c1)) w.heap.size 126 #[.int .i64 k,.int .i64 b,.int .u64 l,.int .u64 s,.int .i64 cl,.int .u64 u,.slice A1 f.length c1,.slice D es.length d]:=C.aQ 6 (.slice A1 f.length c1)
 have dN:=L.far (p:=⟨w.heap.size,6,none⟩) aj (.slice A1 f.length c1)
 have k3:K w (t.setCell ⟨w.heap.size,6,none⟩ (.slice A1 f.length c1)):=K.set M (aD _) 6 _
 have eN:fT (t.setCell ⟨w.heap.size,6,none⟩ (.slice A1 f.length c1)) w1.heap.size (.slice A1 f.length c1) f:=fT.up F (aI.set af 6 _)
 have rX:w.heap.size+1<(t.setCell ⟨w.heap.size,6,none⟩ (.slice A1 f.length c1)).heap.size:=Lp
 clear C L M F q z
 generalize t.setCell _ _=w3 at *
 have sR:=K.rf w3
 have q:=eE.cell
 go_wp2_with fail
 clear q
 go_loopw [3,5,13] (fun o _ i W=>∃j:Nat,j<=es.length/\i=.int .i64 j/\aX w3.heap.size w3.heap.size 51 cO (es.take j) o W/\K w3 W) (fun _ _ i _=>es.length-(intOf i).toNat)
 case atStart=>exact⟨0,af,rfl,FX,sR⟩
 case round => exact Lq
theorem O5 x v w(h:dm x v w)(S:eJ x) :
 Calls prog 216 #[v] w λe w'=>∃v',e=.returned v'/\wy w.heap.size x v' w'/\K w w':=by
 have N:=ae func216
 have V:=ae ntmps216
 have zR:=ae results216
 obtain⟨vf,ve,rfl,X,he⟩:=h
 obtain⟨A,c,G,H⟩:=X
 obtain rfl:=G
 obtain⟨D,d,G,he,Q⟩:=he
 obtain rfl:=G
 obtain⟨T,R,J⟩:=S
 obtain⟨k,b,l,s,cl,u,f,es⟩:=x
 simp only at H he Q T R J⊢
 have B:=(ai.new w 126 (aE ⟨k,b,l,s,cl,u,f,es⟩ (.slice A f.length c) (.slice D es.length d))).alloc (.cells eQ 126)
 have E:=ai.new (w.alloc (.cells (aE ⟨k,b,l,s,cl,u,f,es⟩ (.slice A f.length c) (.slice D es.length d)) 126)) 126 eQ
 have I:=K.lW w (.cells (aE ⟨k,b,l,s,cl,u,f,es⟩ (.slice A f.length c) (.slice D es.length d)) 126) (.cells eQ 126)
 have hz:(w.alloc (.cells (aE ⟨k,b,l,s,cl,u,f,es⟩ (.slice A f.length c) (.slice D es.length d)) 126)).heap.size=w.heap.size+1:=aj
 rw[hz]at E
 clear hz
 have GU:=ae J
 clear J
 go_enter N.aa,V.aa
 go_upto_region 1 with (fail)
 generalize World.alloc (World.alloc w _) _=w1 at *
 have O:=(H.below I (aD _)).more I.size
 have Y:=E.lt
 clear H
 have q:=B.cell
 have z:=B.frozen
 go_wp2_with (at_builtin;refine iW rfl _ _ 53 rfl w1.heap.size 73 _ 5 56 TF _ 0 [] rfl (kU _ _ _ _) _ A f.length c (f.flatMap fR) rfl O (IA f) ?p1 (aD _) ?_)
 case p1=>omega
 intro U t F _ _ aN
 have C:=B.ay aN
 have L:=E.ay aN
 have M:=I.tr aN
 obtain⟨A1,c1,rfl,-⟩:=(show fT t w1.heap.size U f from F).slice
 clear q z B E
 have q:=C.cell
 have z:=C.frozen
 have Z:=aN.size
 clear aN
 go_upto_region 3 with (fail)
 have eE:ai (t.setCell ⟨w.heap.size,6,none⟩ (.slice A1 f.length c1)) w.heap.size 126 #[.int .i64 k,.int .i64 b,.int .u64 l,.int .u64 s,.int .i64 cl,.int .u64 u,.slice A1 f.length c1,.slice D es.length d]:=C.aQ 6 (.slice A1 f.length c1)
 have dN:=L.far (p:=⟨w.heap.size,6,none⟩) aj (.slice A1 f.length c1)
 have k3:K w (t.setCell ⟨w.heap.size,6,none⟩ (.slice A1 f.length c1)):=K.set M (aD _) 6 _
 have eN:fT (t.setCell ⟨w.heap.size,6,none⟩ (.slice A1 f.length c1)) w1.heap.size (.slice A1 f.length c1) f:=fT.up F (aI.set af 6 _)
 have rX:w.heap.size+1<(t.setCell ⟨w.heap.size,6,none⟩ (.slice A1 f.length c1)).heap.size:=Lp
 clear C L M F q z
 generalize t.setCell _ _=w3 at *
 have sR:=K.rf w3
 have q:=eE.cell
 go_wp2_with fail
 clear q
 go_loopw [3,5,13] (fun o _ i W=>∃j:Nat,j<=es.length/\i=.int .i64 j/\aX w3.heap.size w3.heap.size 51 cO (es.take j) o W/\K w3 W) (fun _ _ i _=>es.length-(intOf i).toNat)
 case atStart=>exact⟨0,af,rfl,FX,sR⟩
 case round => exact Lq
section
variable {α β:Type} {S:ei α} {S2:ei β} {Y Y' X:Nat->Prop} {base lo:Nat} {e e2:TypeId} {l:List α} {l2:List β} {v v2:Value} {w w':World}
theorem aB.to(h:aB Y base e S l v w)(u:ag X w w')(A:∀k,X k->Y k)(hn:∀k,v.ownBlock=some k->¬X k)(B:∀k,k<w.heap.size->Y' k->Y k∨v.ownBlock=some k):aB Y' base e S l v w':=by obtain⟨css,G,D,t⟩:=h;exact⟨css,i6 G u λb E F=>hn b E F,D,λC y=>t C ((u.more λk hk=>.inl (A k hk)).gF y λk hk j=>j.elim (λj=>B k hk j) .inr)⟩
structure lY(lo base:Nat)(e:TypeId)(S:ei α)(l:List α)(v:Value)(e2:TypeId)(S2:ei β)(l2:List β)(v2:Value)(w:World):Prop where
 a:aB (λk=>k<lo∨v2.ownBlock=some k) base e S l v w
 b:aB (λk=>k<lo∨v.ownBlock=some k) base e2 S2 l2 v2 w
 ne:∀k,v.ownBlock=some k->v2.ownBlock=some k->False
 lo:lo<=base
theorem lY.st(h:lY lo base e S l v e2 S2 l2 v2 w)(k:K w w'):lY lo base e S l v e2 S2 l2 v2 w':=⟨h.a.st k,h.b.st k,h.ne,h.lo⟩
theorem lY.low{base'}(h:lY lo base e S l v e2 S2 l2 v2 w)(hb:base'<=base)(j:lo<=base'):lY lo base' e S l v e2 S2 l2 v2 w:=⟨h.a.low hb,h.b.low hb,h.ne,j⟩
theorem lY.swap(h:lY lo base e S l v e2 S2 l2 v2 w):lY lo base e2 S2 l2 v2 e S l v w:=⟨h.b,h.a,λk t j=>h.ne k j t,h.lo⟩
theorem lY.Yy(h:aB (λk=>k<lo) base e S l v w)(j:lo<=base):lY lo base e S l v e2 S2 ([]:List β) (.slice none 0 0) w :=
 ⟨h.less (Y':=λk=>k<lo∨(Value.slice none 0 0).ownBlock=some k) λk hk=>hk.elim id λh=>FY,aB.nil _ _ _ _ _,λk _ h=>FY,j⟩
theorem lY.push(h:lY lo base e S l v e2 S2 l2 v2 w){j y}(h9:aB (λk=>k<lo∨v2.ownBlock=some k) base e S y j w')(hg:w.grownBy w' v.ownBlock)(hb:j.ownBlock=v.ownBlock∨j.ownBlock=some w.heap.size):lY lo base e S y j e2 S2 l2 v2 w':=by
 have hz:=h.b.blk;refine⟨h9,h.b.to (X:=λk=>v.ownBlock=some k) (ag.eU hg λk e=>e) (λk hk=>.inr hk) (λk u t=>h.ne k t u) (λk hk A=>?_),λk u t=>?_,h.lo⟩
 ·grind
 ·rcases hb with hb|hb
  ·exact h.ne k (hb▸u) t
  grind
end
section
variable {α:Type} {S:ei α} {Y N:Nat->Prop} {base lo:Nat} {e:TypeId} {l:List α} {v:Value} {x:α} {w w' W:World}
theorem aB.own(h:aB Y base e S l v w){b}(hb:v.ownBlock=some b):base<=b/\b<w.heap.size/\∃cur,ai w b e cur :=
 ⟨(h.blk b hb).1,(h.blk b hb).2,h.elim λ_ h=>mq h.1 hb⟩
theorem eD.mut{row u}(h:eD N lo e S x u w)(k:w.grownBy w' row)(j:∀b,row=some b->N b/\b<lo):eD N lo e S x u w':=by obtain⟨g,cs,y,B,A,t⟩:=h;exact⟨g,cs,y,B,A.grown k λh=>aA,t.up (ag.eU (X:=λb=>row=some b) k λ_ h=>h) λb h=>(j b h).1⟩
theorem uQ.mut{row u}(h:uQ N S x u w)(k:w.grownBy w' row)(j:∀b,row=some b->N b):uQ N S x u w' :=
 ⟨h.1,h.2.up (ag.eU (X:=λb=>row=some b) k λ_ h=>h) j⟩
abbrev rQ(v:Value)(w W:World):Prop:=ag (λk=>v.ownBlock=some k) w W
theorem Fy{P:Program}{Q:Exit->Act->World->Prop}{id:Nat}{ops:Array Oper}{y:Act}(m z:Nat)(l:List α)(v:Value)(x:α)(F:TypeId){J:Value}{size bytes:Nat}(T:fY P F e J size bytes){s u:Operand}{o:Oper}{C:List Nat×List (Nat×Nat)}(B:List (List Nat×List (Nat×Nat)))(n:Nat)
 (L:aB Y base e S l v w) (hb:base<=w.heap.size) (N:(l.length+1)*(bytes+1)<=140737488355328)
 (h:au P y (rQ v w) (λW W'=>W.grownBy W' v.ownBlock) [z] (λr xs t=>(∀v W,tab t z v W)/\(∀V W,rQ v w W->(∀j∈C.1,tab t j (V j) W)->aF C.2 y V s=v/\eD (λk=>Y k∨v.ownBlock=some k) 0 e S x (aF C.2 y V u) W) /\
  ∀V W,rQ v w W->aB Y base e S (l++[x]) (V z) W->(∀b,(V z).ownBlock=some b->v.ownBlock=some b∨w.heap.size<=b)->cC V W 0 t->aH P y (λV W=>Q .normal (fZ V ops.toList 0 y) W) m r xs V W) m ops.toList B [])
 (hz:ops[z]?=some o:=by rfl) (Z:B[z]?=some C:=by rfl) (hop:o.op=.call { callee:=.builtin .append,args:=#[s,u],argTypes:=#[F,F] }:=by rfl) (hg:o.guard=none:=by rfl) (hS:S.size=size:=by rfl)
 (hn:y.tmps.size=n:=by rfl) (hm:P.follows .mixedOrders=true:=by kernel_rfl) (R:sy ops n=true:=by kernel_rfl) (M:uq ops B=true:=by kernel_rfl) (U:I8 B m ops.size=true:=by kernel_rfl) (GM:Ei B [z] m=true:=by kernel_rfl) (X:m<=ops.size:=by decide) :
 (Code.region id ops true).wp P Q y w :=
 OL m [z] (rQ v w) (λW W'=>W.grownBy W' v.ownBlock) (λk vs W=>if k=0 then aB Y base e S l v W else ∃v',vs=[v']/\aB Y base e S (l++[x]) v' W/\∀b,v'.ownBlock=some b->v.ownBlock=some b∨w.heap.size<=b) B n
  (λ_ _ h k=>h.tr (ag.aT k _)) (λ_ _ h=>BN h _) (λk vs W W' h kW=>by
   split at h
   ·next D=>rw[if_pos D];exact h.st kW
   ·next D =>
    rw[if_neg D];obtain⟨v',A,G,I⟩:=h;exact⟨v',A,G.st kW,I⟩) (ag.rf _ _) (λ_=>L)
  (au.imp (λr xs t ⟨D,G,I⟩=>⟨⟨⟨o,C,hz,Z,hg,λV W hW hD hp=>by
   obtain⟨A,hr⟩:=G V W hW hp
   obtain⟨v',w',O,H,E,g3,-⟩:=adD (P:=P) (ρ:=aF C.2 y V) s u F o.type J size bytes T hS A hD _ rfl x hr N (bn hb hW.size)
   rw[hop,O]
   exact⟨hW.tr (ag.eU E λ_ h=>h),E,⟨v',rfl,H,λb hb=>g3.elim (λh=>.inl (h▸hb)) λh=>.inr af6⟩,D _ _⟩⟩,trivial⟩,
   λV W hW ⟨v',A,H,E⟩ hA=>by
    injection A with A;subst A;exact I V W hW H E hA⟩) _ _ _ _ h) hn hm R M U GM aj X
end
theorem au.Gq{P:Program}{u:Act}{R:World->Prop}{C:List Nat}{F:List Oper->List (List Nat×List (Nat×Nat))->List (Value->World->Prop)->Prop}{m:Nat}{o:Oper}{r:List Oper}{B:List Nat×List (Nat×Nat)}{xs:List (List Nat×List (Nat×Nat))}{t:List (Value->World->Prop)}{row:Option Nat}
 {α:Type} {S:ei α} {e:TypeId} {N:Nat->Prop} (lo:Nat) {D:TypeId} {z:Value} {size bytes:Nat} (T:fY P D e z size bytes) {A:Operand} (y:α) (G:∀W,R W->lo<=W.heap.size) (H:∀b,row=some b->N b/\b<lo)
 (h:∀(V:Nat->Value) (w:World),R w->(∀j∈B.1,tab t j (V j) w)->uQ N S y (aF B.2 u V A) w)
 (k:au P u R (λW W'=>W.grownBy W' row) C F m r xs (t++[eD N lo e S y])) (M:o.op=.buildSlice D 1 #[(0,A)]:=by rfl) (hg:o.guard=none:=by rfl) (O:S.size=size:=by rfl) (L:size<=16777216:=by decide) (J:C.contains t.length=false:=by (simp only[dx,fg,List.length_nil,List.contains_nil];try rfl)) :
 au P u R (λW W'=>W.grownBy W' row) C F (m+1) (o :: r) (B :: xs) t:=by
 refine au.op (eD N lo e S y) (λ_ _ _ h k=>h.mut k H) (λV w E hp=>?_) k J
 obtain⟨Q,I⟩:=h V w E hp
 rw[hg,if_pos (show bR V none=true from rfl),M,acj (P:=P) (w:=w) D _ z size bytes T A rfl af L]
 exact⟨eD.new I lo (G w E),(K.rf w).al _⟩
theorem B6{B x v w}(h:wy B x v w):∃vf j,v=.agg (aE x vf j)/\Fx (λk=>k<B) (λW=>aV.rel x (aE x vf j).toList W) w:=by have y:=h;obtain⟨vf,j,e,-,-⟩:=h;refine⟨vf,j,e,λW u=>?_⟩;obtain⟨D,C,t,A,y⟩:=avx (axa y W (u.rY λk A _ _ y=>af));rw[e]at t;injection t with t;exact⟨D,C,congrArg Array.toList t,A,y⟩
theorem Qb{B x v w N}(h:wy B x v w)(t:∀k,N k->k<B):uQ N aV x v w:=by obtain⟨vf,u,rfl,j⟩:=B6 h;exact⟨rfl,j.less t⟩
