/-
  The walk of the document's Same of events (layer 4). Conditions: none.
-/
import Derived.Test.YtoeiinllelipoaaGreatMa05
import Derived.Test.YtoeiinllelipoaaGreatMz
set_option maxRecDepth 100000
set_option maxHeartbeats 16000000
set_option linter.unusedVariables false
set_option linter.unusedSimpArgs false
namespace Go.Proofs.YtoeiinllelipoaaGreat
open Go Go.RowKit Tryz
theorem ao8{α:Type}(a b:List α)(k:Nat)(ha:k<a.length)(hb:k<b.length)(h:a.take k=b.take k):(a.take (k+1)=b.take (k+1))↔a[k]=b[k]:=by exact ae4
theorem aq3(A D:Option Addr)(c d:Nat)(la lb:List bh)(w:World)(B B':Nat)(hR:Reads w B 4 A la.length (la.flatMap jQ))(hB:B<=w.heap.size)(U:Reads w B' 4 D lb.length (lb.flatMap jQ))(ku:B'<=w.heap.size)(hlen:la.length<=1000000) :
 Calls prog 136 #[.slice A la.length c,.slice D lb.length d] w λe w'=>e=.returned (.bool (decide (la=lb)))/\Below w.heap.size w w':=by
 have HA:=ae hR
 have HD:=ae U
 clear hR U
 by_cases hl:la.length=lb.length
 rotate_left
 ·have aO:((la.length:Int) != (lb.length:Int))=true:=by rw[bne_iff_ne];omega
  have HE:Hid (decide (la=lb)=false):=ae ae5;clear hl;go_enter func136,ntmps136;go_wp2;exact OT
 have aO:((la.length:Int) != (lb.length:Int))=false:=by rw[bne_eq_false_iff_eq];omega
 have HL:=ae hl
 have jD:la.length<=lb.length:=af
 clear hl
 go_enter func136,ntmps136
 go_wp2_with fail
 go_loopw [5] (fun i wr=>∃k:Nat,k<=la.length/\i=.int .i64 (k:Int)/\Hid (la.take k=lb.take k)/\Below w.heap.size w wr) (fun i _=>la.length-(intOf i).toNat)
 case atStart=>exact⟨0,af,rfl,ae aj,aN _ _⟩
 case round =>
  obtain⟨k,hk,rfl,hall,hb⟩:=hrel;by_cases F:k<la.length
  ·have eF:(k:Int)<(la.length:Int):=af;have G:k<lb.length:=af;have ayC:(k:Int)<(lb.length:Int):=af;obtain⟨b,s,rfl,dU,Z⟩:=HA.aa.FG af;obtain⟨e,j,rfl,YY,R⟩:=HD.aa.FG af;have u:b<w.heap.size:=bB dU hB;have t:e<w.heap.size:=bB YY ku;obtain⟨Y,L,S,N⟩:=Z k F;obtain⟨f0,X,f2,T⟩:=R k G;have H:=(hb.cell (p:=⟨b,s+k*4,none⟩) u).trans Y;have a1:=(hb.cell (p:=⟨b,s+k*4+1,none⟩) u).trans L;have Q:=(hb.cell (p:=⟨b,s+k*4+2,none⟩) u).trans S;have a3:=(hb.cell (p:=⟨b,s+k*4+3,none⟩) u).trans N;have d0:=(hb.cell (p:=⟨e,j+k*4,none⟩) t).trans f0;have d1:=(hb.cell (p:=⟨e,j+k*4+1,none⟩) t).trans X;have d2:=(hb.cell (p:=⟨e,j+k*4+2,none⟩) t).trans f2;have d3:=(hb.cell (p:=⟨e,j+k*4+3,none⟩) t).trans T;have hT:=ae (ao8 la lb k F G hall.aa);have HF:Hid (la[k]≠lb[k]->decide (la=lb)=false):=ae λh=>by simp;rintro rfl;exact h rfl
   clear Y L S N f0 X f2 T Z R;generalize la[k]=x at *;generalize lb[k]=y at *;have E:=avy x y;obtain⟨xs,xk,xn,xt⟩:=x;obtain⟨M,O,J,yt⟩:=y;simp only at H a1 Q a3 d0 d1 d2 d3 E;generalize I:decide ((xs,xk,xn,xt)=(M,O,J,yt))=q at *;have HQ:=ae I;have Q8:=ae E;clear I E;go_wp2_with fail
   obtain⟨C,hC⟩:∃C:World->Prop,C=λW=>Below wr.heap.size wr W:=⟨_,rfl⟩
   have hg:∀W W',C W->Below W.heap.size W W'->C W':=by exact ae6
   have hc0:C wr:=by rw[hC];exact aN _ _
   have hz:=hb.size;refine S6 C [ag (.slice (some ⟨b,s,none⟩) la.length c),ag (.int .i64 (k:Int)),ag (.pointer (some ⟨b,s+k*4,none⟩)),ag (XP (xs,xk,xn,xt)),ag (.slice (some ⟨e,j,none⟩) lb.length d),ag (.int .i64 (k:Int)),ag (.pointer (some ⟨e,j+k*4,none⟩)),ag (XP (M,O,J,yt)),ag (.bool (!q))]
    [([],[]),([],[]),([0,1],[(17,0),(18,1)]),([2],[(19,2)]),([],[]),([],[]),([4,5],[(21,4),(22,5)]),([6],[(23,6)]),([3,7],[(20,3),(24,7)])] 26 rfl ak ak ak hg tS ?st ?ow ?_
   case st =>
    simp only[aI]
    and_intros
    all_goals first|exact jN _|simp
   case ow =>
    simp only[mS]
    and_intros
    all_goals try trivial
    all_goals
     intro V w' hc hp
     rw[hC]at hc
     have c0:=(hc.cell (p:=⟨b,s+k*4,none⟩) aU).trans H
     have c1:=(hc.cell (p:=⟨b,s+k*4+1,none⟩) aU).trans a1
     have c2:=(hc.cell (p:=⟨b,s+k*4+2,none⟩) aU).trans Q
     have c3:=(hc.cell (p:=⟨b,s+k*4+3,none⟩) aU).trans a3
     have g0:=(hc.cell (p:=⟨e,j+k*4,none⟩) aU).trans d0
     have g1:=(hc.cell (p:=⟨e,j+k*4+1,none⟩) aU).trans d1
     have g2:=(hc.cell (p:=⟨e,j+k*4+2,none⟩) aU).trans d2
     have g3:=(hc.cell (p:=⟨e,j+k*4+3,none⟩) aU).trans d3
     try simp only[aI,aE,aF,ag]at hp
     try simp[aL,aw,List.lookup,hp,aE,aF,aS,execOp,ay,ag,undef,aN,c0,c1,c2,c3,g0,g1,g2,g3,F,G,Q8.aa,go_sem]
   exact ae7
  ·exact ae8
section
variable {l la lb:List bh} {b:List UInt8} {v va vb:Value} {w:World}
theorem auq(h:ik la va w)(k:ik lb vb w)(s:la.length<=1000000):Calls prog 136 #[va,vb] w λe w'=>e=.returned (.bool (decide (la=lb)))/\Below w.heap.size w w':=by obtain⟨A,c,rfl,i⟩:=h;obtain⟨D,d,rfl,j⟩:=k;exact aq3 A D c d la lb w _ _ i (aG _) j (aG _) s
end
theorem aq4(x y:bc)(w:World)(d:Nat):(Op.equalIn (d+1+1+1) 81 (.agg #[.string x.1,.int .i64 x.2.1,.int .i64 x.2.2.1,.int .i64 x.2.2.2.1,.string x.2.2.2.2]) (.agg #[.string y.1,.int .i64 y.2.1,.int .i64 y.2.2.1,.int .i64 y.2.2.2.1,.string y.2.2.2.2])).run prog w=.ok (decide (x=y)) w:=by obtain⟨a,o,k,n,s⟩:=x;obtain⟨u,o',C,D,A⟩:=y;simp[go_sem,Hy];by_cases h:a=u <;> by_cases i:o=o' <;> by_cases j:k=C <;> by_cases t:n=D <;> by_cases B:s=A <;> simp[h,j,t,B,i]
theorem avK(x y:bc)(w:World):(binOp .neq 81 (.agg #[.string x.1,.int .i64 x.2.1,.int .i64 x.2.2.1,.int .i64 x.2.2.2.1,.string x.2.2.2.2]) (.agg #[.string y.1,.int .i64 y.2.1,.int .i64 y.2.2.1,.int .i64 y.2.2.2.1,.string y.2.2.2.2])).run prog w=.ok (.bool (!decide (x=y))) w:=by rw[run_neq_struct,aq4 x y w 9997];rfl
theorem NS{α:Type}(a b:List α)(k:Nat)(ha:k<a.length)(hb:k<b.length)(h:a.take k=b.take k):(a.take (k+1)=b.take (k+1))↔a[k]=b[k]:=by exact ae4
theorem apO(A D:Option Addr)(c d:Nat)(la lb:List bc)(w:World)(B B':Nat)(hR:Reads w B 5 A la.length (la.flatMap dY))(hB:B<=w.heap.size)(hS:Reads w B' 5 D lb.length (lb.flatMap dY))(ku:B'<=w.heap.size)(hlen:la.length<=1000000) :
 Calls prog 135 #[.slice A la.length c,.slice D lb.length d] w λe w'=>e=.returned (.bool (decide (la=lb)))/\Below w.heap.size w w':=by
 have HA:=ae hR
 have HD:=ae hS
 clear hR hS
 by_cases hl:la.length=lb.length
 rotate_left
 ·have aO:((la.length:Int) != (lb.length:Int))=true:=by rw[bne_iff_ne];omega
  have HE:Hid (decide (la=lb)=false):=ae ae5;clear hl;go_enter func135,ntmps135;go_wp2;exact OT
 have aO:((la.length:Int) != (lb.length:Int))=false:=by rw[bne_eq_false_iff_eq];omega
 have HL:=ae hl
 have jD:la.length<=lb.length:=af
 clear hl
 go_enter func135,ntmps135
 go_wp2_with fail
 go_loopw [5] (fun i wr=>∃k:Nat,k<=la.length/\i=.int .i64 (k:Int)/\Hid (la.take k=lb.take k)/\Below w.heap.size w wr) (fun i _=>la.length-(intOf i).toNat)
 case atStart=>exact⟨0,af,rfl,ae aj,aN _ _⟩
 case round =>
  obtain⟨k,hk,rfl,hall,hb⟩:=hrel;by_cases F:k<la.length
  ·have eF:(k:Int)<(la.length:Int):=af;have G:k<lb.length:=af;have ayC:(k:Int)<(lb.length:Int):=af;obtain⟨b,s,rfl,dU,hcell⟩:=HA.aa.DW af;obtain⟨e,j,rfl,YY,U⟩:=HD.aa.DW af;have u:b<w.heap.size:=bB dU hB;have t:e<w.heap.size:=bB YY ku;obtain⟨e0,N,X,Q,S⟩:=hcell k F;obtain⟨f0,f1,f2,Y,f4⟩:=U k G;have H:=(hb.cell (p:=⟨b,s+k*5,none⟩) u).trans e0;have a1:=(hb.cell (p:=⟨b,s+k*5+1,none⟩) u).trans N;have T:=(hb.cell (p:=⟨b,s+k*5+2,none⟩) u).trans X;have a3:=(hb.cell (p:=⟨b,s+k*5+3,none⟩) u).trans Q;have Z:=(hb.cell (p:=⟨b,s+k*5+4,none⟩) u).trans S;have d0:=(hb.cell (p:=⟨e,j+k*5,none⟩) t).trans f0;have d1:=(hb.cell (p:=⟨e,j+k*5+1,none⟩) t).trans f1;have d2:=(hb.cell (p:=⟨e,j+k*5+2,none⟩) t).trans f2;have d3:=(hb.cell (p:=⟨e,j+k*5+3,none⟩) t).trans Y;have d4:=(hb.cell (p:=⟨e,j+k*5+4,none⟩) t).trans f4;have hT:=ae (NS la lb k F G hall.aa);have HF:Hid (la[k]≠lb[k]->decide (la=lb)=false):=ae λh=>by simp;rintro rfl;exact h rfl
   clear e0 N X Q S f0 f1 f2 Y f4 hcell U;generalize la[k]=x at *;generalize lb[k]=y at *;have E:=avK x y;obtain⟨xs,J,xk,xn,xt⟩:=x;obtain⟨O,M,R,L,yt⟩:=y;simp only at H a1 T a3 Z d0 d1 d2 d3 d4 E;generalize I:decide ((xs,J,xk,xn,xt)=(O,M,R,L,yt))=q at *;have HQ:=ae I;have Q8:=ae E;clear I E;go_wp2_with fail
   obtain⟨C,hC⟩:∃C:World->Prop,C=λW=>Below wr.heap.size wr W:=⟨_,rfl⟩
   have hg:∀W W',C W->Below W.heap.size W W'->C W':=by exact ae6
   have hc0:C wr:=by rw[hC];exact aN _ _
   have hz:=hb.size;refine S6 C [ag (.slice (some ⟨b,s,none⟩) la.length c),ag (.int .i64 (k:Int)),ag (.pointer (some ⟨b,s+k*5,none⟩)),ag (oN (xs,J,xk,xn,xt)),ag (.slice (some ⟨e,j,none⟩) lb.length d),ag (.int .i64 (k:Int)),ag (.pointer (some ⟨e,j+k*5,none⟩)),ag (oN (O,M,R,L,yt)),ag (.bool (!q))]
    [([],[]),([],[]),([0,1],[(17,0),(18,1)]),([2],[(19,2)]),([],[]),([],[]),([4,5],[(21,4),(22,5)]),([6],[(23,6)]),([3,7],[(20,3),(24,7)])] 26 rfl ak ak ak hg tS ?st ?ow ?_
   case st =>
    simp only[aI]
    and_intros
    all_goals first|exact jN _|simp
   case ow =>
    simp only[mS]
    and_intros
    all_goals try trivial
    all_goals
     intro V w' hc hp
     rw[hC]at hc
     have c0:=(hc.cell (p:=⟨b,s+k*5,none⟩) aU).trans H
     have c1:=(hc.cell (p:=⟨b,s+k*5+1,none⟩) aU).trans a1
     have c2:=(hc.cell (p:=⟨b,s+k*5+2,none⟩) aU).trans T
     have c3:=(hc.cell (p:=⟨b,s+k*5+3,none⟩) aU).trans a3
     have c4:=(hc.cell (p:=⟨b,s+k*5+4,none⟩) aU).trans Z
     have g0:=(hc.cell (p:=⟨e,j+k*5,none⟩) aU).trans d0
     have g1:=(hc.cell (p:=⟨e,j+k*5+1,none⟩) aU).trans d1
     have g2:=(hc.cell (p:=⟨e,j+k*5+2,none⟩) aU).trans d2
     have g3:=(hc.cell (p:=⟨e,j+k*5+3,none⟩) aU).trans d3
     have g4:=(hc.cell (p:=⟨e,j+k*5+4,none⟩) aU).trans d4
     try simp only[aI,aE,aF,ag]at hp
     try simp[aL,aw,List.lookup,hp,aE,aF,aS,execOp,ay,ag,undef,aN,c0,c1,c2,c3,c4,g0,g1,g2,g3,g4,F,G,Q8.aa,go_sem]
   exact ae7
  ·exact ae8
theorem asF{la lb:List bc}{va i:Value}{w:World}(h:eJ la va w)(k:eJ lb i w)(t:la.length<=1000000):Calls prog 135 #[va,i] w λe w'=>e=.returned (.bool (decide (la=lb)))/\Below w.heap.size w w':=by obtain⟨A,c,rfl,j⟩:=h;obtain⟨D,d,rfl,s⟩:=k;exact apO A D c d la lb w _ _ j (aG _) s (aG _) t
def mX(l:List bh):Bool:=decide (l.length<=20)&&l.all λx=>decide (x.1.size<=100)&&decide (x.2.2.2.size<=100)
theorem avL(l:List bh)(k:Nat)(h:k<l.length)(hb:¬(l[k].1.size<=100/\l[k].2.2.2.size<=100)):mX l=false:=by simp only[mX,Bool.and_eq_false_iff];exact ae9
theorem aur(l:List bh)(i:l.length<=20)(h:∀k (hk:k<l.length),l[k].1.size<=100/\l[k].2.2.2.size<=100):mX l=true:=by simp only[mX,cz,decide_eq_true_eq,i,true_and,pU];exact afa
theorem acC(A:Option Addr)(c:Nat)(l:List bh)(w:World)(B:Nat)(t:Reads w B 4 A l.length (l.flatMap jQ))(M:B<=w.heap.size) :
 Calls prog 86 #[.slice A l.length c] w λe w'=>e=.returned (.bool (mX l))/\w=w':=by
 have D:=ae t
 clear t
 by_cases u:l.length<=20
 rotate_left
 ·have E:(20:Int)<(l.length:Int):=af;have HE:Hid (mX l=false):=ae (by simp[mX];omega);clear u;go_enter func86,ntmps86;exact sV
 have E:¬(20:Int)<(l.length:Int):=af
 go_enter func86,ntmps86
 go_wp2_with fail
 go_loop [3] (fun i=>∃k:Nat,k<=l.length/\i=.int .i64 (k:Int)/\Hid (∀j (hj:j<l.length),j<k->l[j].1.size<=100/\l[j].2.2.2.size<=100)) (fun i=>l.length-(intOf i).toNat)
 case atStart=>exact⟨0,af,rfl,ae (λj _ h=>absurd h af)⟩
 case round =>
  obtain⟨k,hk,rfl,hall⟩:=hrel;by_cases s:k<l.length
  ·have F:(k:Int)<(l.length:Int):=af;obtain⟨b,L,rfl,H,y⟩:=D.aa.FG af;obtain⟨C,d1,d2,d3⟩:=y k s;clear y d1 d2;have HF:=ae (avL l k s);have HT:Hid (l[k].1.size<=100/\l[k].2.2.2.size<=100->∀j (hj:j<l.length),j<k+1->l[j].1.size<=100/\l[j].2.2.2.size<=100):=by exact afb
   generalize l[k]=x at *;obtain⟨xs,J,I,xt⟩:=x;simp only at C d3 HF HT;by_cases h1:xs.size<=100
   ·have G:¬(100:Int)<(xs.size:Int):=af;by_cases h2:xt.size<=100
    ·exact afc
    ·have xX:(100:Int)<(xt.size:Int):=af;exact afd
   ·have G:(100:Int)<(xs.size:Int):=af;exact afd
  ·have F:¬(k:Int)<(l.length:Int):=af;have HE:Hid (mX l=true):=ae (aur l u λj hj=>hall.aa j hj af);exact sV
section
variable {l la lb:List bh} {b:List UInt8} {v va vb:Value} {w:World}
theorem avM(h:ik l v w):Calls prog 86 #[v] w λe w'=>e=.returned (.bool (mX l))/\w=w':=by obtain⟨A,c,rfl,i⟩:=h;exact acC A c l w _ i (aG _)
end
def pZ(l:List bc):Bool:=decide (l.length<=10)&&l.all λx=>decide (x.1.size<=100)&&decide (x.2.2.2.2.size<=100)
theorem aus(l:List bc)(k:Nat)(h:k<l.length)(hb:¬(l[k].1.size<=100/\l[k].2.2.2.2.size<=100)):pZ l=false:=by simp only[pZ,Bool.and_eq_false_iff];exact ae9
theorem asG(l:List bc)(nf:l.length<=10)(h:∀k (hk:k<l.length),l[k].1.size<=100/\l[k].2.2.2.2.size<=100):pZ l=true:=by simp only[pZ,cz,decide_eq_true_eq,nf,true_and,pU];exact afa
theorem abS(A:Option Addr)(c:Nat)(l:List bc)(w:World)(B:Nat)(t:Reads w B 5 A l.length (l.flatMap dY))(O:B<=w.heap.size) :
 Calls prog 87 #[.slice A l.length c] w λe w'=>e=.returned (.bool (pZ l))/\w=w':=by
 have D:=ae t
 clear t
 by_cases u:l.length<=10
 rotate_left
 ·have F:(10:Int)<(l.length:Int):=af;have HE:Hid (pZ l=false):=ae (by simp[pZ];omega);clear u;go_enter func87,ntmps87;exact sV
 have F:¬(10:Int)<(l.length:Int):=af
 go_enter func87,ntmps87
 go_wp2_with fail
 go_loop [3] (fun i=>∃k:Nat,k<=l.length/\i=.int .i64 (k:Int)/\Hid (∀j (hj:j<l.length),j<k->l[j].1.size<=100/\l[j].2.2.2.2.size<=100)) (fun i=>l.length-(intOf i).toNat)
 case atStart=>exact⟨0,af,rfl,ae (λj _ h=>absurd h af)⟩
 case round =>
  obtain⟨k,hk,rfl,hall⟩:=hrel;by_cases s:k<l.length
  ·have G:(k:Int)<(l.length:Int):=af;obtain⟨b,M,rfl,I,y⟩:=D.aa.DW af;obtain⟨C,d1,d2,d3,E⟩:=y k s;clear y d1 d2 d3;have HF:=ae (aus l k s);have HT:Hid (l[k].1.size<=100/\l[k].2.2.2.2.size<=100->∀j (hj:j<l.length),j<k+1->l[j].1.size<=100/\l[j].2.2.2.2.size<=100):=by exact afb
   generalize l[k]=x at *;obtain⟨xs,N,L,J,xt⟩:=x;simp only at C E HF HT;by_cases h1:xs.size<=100
   ·have H:¬(100:Int)<(xs.size:Int):=af;by_cases h2:xt.size<=100
    ·exact afc
    ·have xX:(100:Int)<(xt.size:Int):=af;exact afe
   ·have H:(100:Int)<(xs.size:Int):=af;exact afe
  ·have G:¬(k:Int)<(l.length:Int):=af;have HE:Hid (pZ l=true):=ae (asG l u λj hj=>hall.aa j hj af);exact sV
section
variable {l:List bc} {v:Value} {w:World}
theorem aut(h:eJ l v w):Calls prog 87 #[v] w λe w'=>e=.returned (.bool (pZ l))/\w=w':=by obtain⟨A,c,rfl,i⟩:=h;exact abS A c l w _ i (aG _)
end
def eD(x:aq):Prop:=x.f.length<=1000000/\x.es.length<=1000000/\∀e∈x.es,e.length<=1000000
theorem aq5(x y:aq):decide (x=y)=(decide (x.f=y.f)&&decide (x.es=y.es)&&(decide (x.kind=y.kind)&&(decide (x.br=y.br)&&decide (x.life=y.life)&&decide (x.cI=y.cI))&&decide (x.cl=y.cl)&&decide (x.sub=y.sub))):=by
 obtain⟨k,b,l,s,c,u,f,es⟩:=x;obtain⟨C,i,j,t,B,D,A,h⟩:=y;simp only[aq.mk.injEq];rw[Bool.eq_iff_iff];simp only[decide_eq_true_eq,cz];constructor
 ·rintro ⟨rfl,rfl,rfl,rfl,rfl,rfl,rfl,rfl⟩;simp
 ·rintro ⟨⟨rfl,rfl⟩,⟨⟨rfl,⟨rfl,rfl⟩,rfl⟩,rfl⟩,rfl⟩;simp
theorem apP(x y:aq)(v u:Value)(w:World)(h:cR x v w)(k:cR y u w)(hs:eD x) :
 Calls prog 64 #[v,u] w λe w'=>e=.returned (.bool (decide (x=y)))/\K w w':=by
 obtain⟨qv,qA,rfl,E,t⟩:=h
 obtain⟨kH,kI,rfl,D,B⟩:=k
 obtain⟨F,c1,rfl⟩:=cB E
 obtain⟨O,c2,rfl⟩:=cB D
 obtain⟨G,d1,e1,t,hd1⟩:=t
 obtain rfl:=e1
 obtain⟨Q,d2,e2,B,iY⟩:=B
 obtain rfl:=e2
 obtain⟨hs1,dX,dF⟩:=hs
 have HI:=ae (aq5 x y)
 have L:=ae dF
 clear dF
 have U:=(ai.new w 102 (aA x (.slice F x.f.length c1) (.slice G x.es.length d1))).alloc (.cells (aA y (.slice O y.f.length c2) (.slice Q y.es.length d2)) 102)
 have S:=ai.new (w.alloc (.cells (aA x (.slice F x.f.length c1) (.slice G x.es.length d1)) 102)) 102 (aA y (.slice O y.f.length c2) (.slice Q y.es.length d2))
 have A:K w ((w.alloc (.cells (aA x (.slice F x.f.length c1) (.slice G x.es.length d1)) 102)).alloc (.cells (aA y (.slice O y.f.length c2) (.slice Q y.es.length d2)) 102)):=((K.rf w).al _).al _
 have hz:(w.alloc (.cells (aA x (.slice F x.f.length c1) (.slice G x.es.length d1)) 102)).heap.size=w.heap.size+1:=aj
 rw[hz]at S
 clear hz
 obtain⟨kx,bx,lx,Y,cx,ux,fx,pD⟩:=x
 obtain⟨ky,by_,ly,X,cy,uy,fy,sC⟩:=y
 simp only at E D t B hs1 dX HI L⊢
 generalize decide (aq.mk kx bx lx Y cx ux fx pD=aq.mk ky by_ ly X cy uy fy sC)=R at *
 go_enter func64,ntmps64
 go_wp2_with fail
 generalize World.alloc (World.alloc w _) _=w2 at *
 generalize cQ:w.heap.size+1=g2 at S⊢
 generalize w.heap.size=g1 at U cQ⊢
 clear cQ
 have qx:=U.cells
 have qy:=S.cells
 refine (asF (dB _ _ _ _ E A) (dB _ _ _ _ D A) hs1).mono ?_
 rintro e w3⟨rfl,k3⟩
 have dW:=A.tr k3
 cases jo:decide (fx=fy)
 ·have HR:Hid (R=false):=ae (by rw[HI.aa,jo];rfl);clear HI;go_wp2;go_ret;exact⟨fo,dW⟩
 by_cases hle:pD.length=sC.length
 rotate_left
 ·have HR:Hid (R=false):=ae avN;have BB:((pD.length:Int) != (sC.length:Int))=true:=aU;clear HI;go_wp2;go_ret;exact⟨fo,dW⟩
 have BB:((pD.length:Int) != (sC.length:Int))=false:=aU
 have Jc:=ae hle
 clear hle
 have t:=DE t A
 have B:=DE B A
 clear E D
 go_wp2_with fail
 go_loopw [6,7] (fun i _ wr=>∃j:Nat,j<=pD.length/\i=.int .i64 (j:Int)/\Hid (pD.take j=sC.take j)/\K w2 wr) (fun i _ _=>pD.length-(intOf i).toNat)
 case atStart=>exact⟨0,af,rfl,ae aj,k3⟩
 case round =>
  obtain⟨j,hj,rfl,M,kr⟩:=hrel;by_cases N:j<pD.length
  ·have ba:(j:Int)<(pD.length:Int):=af;have jl:j<sC.length:=Vp;obtain⟨T,H,cs1,rfl,aO,dH,⟨Z,rfl,ako⟩,hc1⟩:=DF t j N au;obtain⟨J,I,Q9,rfl,hb2,wj,⟨v2,rfl,akp⟩,gq⟩:=DF B j jl au;have p1:∀W,K wr W->W.cell? ⟨T,H+j,none⟩=some Z:=by intro W s;have:=hc1 0 au;rw[(kr.tr s).cell Vq];simpa [dJ]using this
   have p2:∀W,K wr W->W.cell? ⟨J,I+j,none⟩=some v2:=by intro W s;have:=gq 0 au;rw[(kr.tr s).cell (by simpa using hb2)];simpa [dJ]using this
   have rx:=λW (s:K wr W)=>qx W (kr.tr s)
   have ry:=λW (s:K wr W)=>qy W (kr.tr s)
   have hsz:=L.aa _ (bW N);have HB:=ae (NS pD sC j N jl M.aa);have Ls:(j:Int)<(sC.length:Int):=af;clear hc1 gq dH wj;go_upto_region 7 with (fail);refine sR [ag (.pointer (some ⟨g1,7,none⟩)),
    ag (.slice (some ⟨T,H,none⟩) pD.length d1),
    ag (.int .i64 ((j:Int))),
    ag (.pointer (some ⟨T,H+j,none⟩)),
    ag (Z),
    ag (.pointer (some ⟨g2,7,none⟩)),
    ag (.slice (some ⟨J,I,none⟩) sC.length d2),
    ag (.int .i64 ((j:Int))),
    ag (.pointer (some ⟨J,I+j,none⟩)),
    ag (v2),
    ag (.bool (decide (pD[j]=sC[j]))),
    ag (.bool (decide (pD[j]=sC[j])))]
    [([],[]),([0],[(31,0)]),([],[]),([1,2],[(32,1),(33,2)]),([3],[(34,3)]),([],[]),([5],[(36,5)]),([],[]),([6,7],[(37,6),(38,7)]),([8],[(39,8)]),([4,9],[(35,4),(40,9)]),([10],[(41,10)])] 70 rfl ak ak ak ?st7 ?ow7 ?_
   case st7 =>
    simp only[aI]
    and_intros
    all_goals first|exact jN _|exact iQ _|exact mz|simp
   case ow7 =>
    simp only[mS]
    and_intros
    all_goals try trivial
    all_goals
     intro V W s C
     try simp only[aI,aE,aF,ag]at C
     try simp[aL,aw,List.lookup,C,aE,aF,aS,execOp,ay,ag,aN,s,rx,ry,p1,p2,ba,Ls,go_sem]
    ·refine (auq (mR _ _ _ _ ako (kr.tr s)) (mR _ _ _ _ akp (kr.tr s)) hsz).mono ?_;rintro e w''⟨rfl,hb⟩;exact⟨_,rfl,rfl,hb⟩
   intro V W s C;have uz:=C 11 aj;simp only[aE,aF,ag]at uz;clear C;simp only[bF,Act.put,cO,cM,cL,uz];have yj:=kr.tr s;clear rx ry p1 p2 ako akp;generalize hq:decide (pD[j]=sC[j])=q at *;have HQ:=ae hq;clear hq;cases q
   ·have HR:Hid (R=false):=ae (by
     rw[HI.aa,show decide (pD=sC)=false from ?_]
     ·simp
     ·simp only[decide_eq_false_iff_not];rintro rfl;have:=HQ.aa;simp at this)
    go_wp2;go_ret;exact⟨fo,A.tr yj⟩
   ·have kJ:Hid (pD.take (j+1)=sC.take (j+1)):=ae (HB.aa.2 (of_decide_eq_true HQ.aa));exact KE
  ·have ba:¬(j:Int)<(pD.length:Int):=af;have HR:Hid (R=(decide (kx=ky)&&(decide (bx=by_)&&decide (lx=ly)&&decide (Y=X))&&decide (cx=cy)&&decide (ux=uy))):=ae (by
    have h1:=M.aa;have h2:=Jc.aa;rw[eT af,eT af]at h1;rw[HI.aa,jo,h1];simp)
   have s:=A.tr kr;clear HI M Jc L t B BB;go_wp2;all_goals
    go_ret
    refine⟨?_,s⟩
    rw[HR.aa]
    show Ending.returned (.bool _)=Ending.returned (.bool _)
    clear qx qy
    first|(simp_all;done)|(simp_all;omega)|(congr 2;rw[Bool.eq_iff_iff];simp_all;omega)
def xD(x:aq):Bool:=decide (x.es.length<=10)&&x.es.all mX&&pZ x.f
theorem aq6(x:aq)(v:Value)(w:World)(h:cR x v w) :
 Calls prog 85 #[v] w λe w'=>e=.returned (.bool (xD x))/\K w w':=by
 obtain⟨vf,H,rfl,B,t⟩:=h
 obtain⟨A,c,rfl⟩:=cB B
 obtain⟨D,d,Q,t,L⟩:=t
 obtain rfl:=Q
 obtain⟨k,b,l,s,cl,u,f,es⟩:=x
 simp only at B t L⊢
 have C:=ai.new w 102 (aA ⟨k,b,l,s,cl,u,f,es⟩ (.slice A f.length c) (.slice D es.length d))
 have k1:K w (w.alloc (.cells (aA ⟨k,b,l,s,cl,u,f,es⟩ (.slice A f.length c) (.slice D es.length d)) 102)):=(K.rf w).al _
 have y:Hid (xD ⟨k,b,l,s,cl,u,f,es⟩=(decide (es.length<=10)&&es.all mX&&pZ f)):=ae rfl
 generalize xD ⟨k,b,l,s,cl,u,f,es⟩=R at *
 by_cases nf:es.length<=10
 rotate_left
 ·have M:(10:Int)<(es.length:Int):=af;have HR:Hid (R=false):=ae (by rw[y.aa];simp[nf]);clear y;go_enter func85,ntmps85;exact Dt
 have M:¬(10:Int)<(es.length:Int):=af
 go_enter func85,ntmps85
 go_upto_region 3 with (fail)
 generalize w.alloc _=E at *
 generalize w.heap.size=g at C⊢
 have X:=C.cells
 have kk:=K.rf E
 have J:=dB _ _ _ _ B k1
 have O:=DE t k1
 clear B t
 go_wp2_with fail
 go_loopw [3,4] (fun i _ wr=>∃j:Nat,j<=es.length/\i=.int .i64 (j:Int)/\Hid ((es.take j).all mX=true)/\K E wr) (fun i _ _=>es.length-(intOf i).toNat)
 case atStart=>exact⟨0,af,rfl,ae aj,kk⟩
 case round =>
  clear kk;obtain⟨j,Z,rfl,HT,kr⟩:=hrel;by_cases F:j<es.length
  ·have S:(j:Int)<(es.length:Int):=af;obtain⟨V,N,cs,rfl,aO,W,⟨H,rfl,G⟩,hcell⟩:=DF O j F au;have Y:wr.cell? ⟨V,N+j,none⟩=some H:=by exact OZ
   have HS:=ae (Df mX es j F);have T:=mR _ _ _ _ G kr;generalize es[j]=U at *;clear hcell G;go_wp2_with fail
   refine (avM T).mono ?_;rintro e w'⟨rfl,rfl⟩;cases hq:mX U
   ·have HR:Hid (R=false):=ae (by
     have:(es.take (j+1)).all mX=false:=KF;have:=Hu mX es (j+1) this;rw[y.aa,this];simp)
    exact Vr
   ·have kJ:Hid ((es.take (j+1)).all mX=true):=ae KH;exact aff
  ·have S:¬(j:Int)<(es.length:Int):=af;have HR:Hid (R=pZ f):=ae (by
    have I:=HT.aa;rw[eT af]at I;rw[y.aa,I];simp[nf])
   go_wp2_with fail
   refine (aut (dB _ _ _ _ J kr)).mono ?_;rintro e w'⟨rfl,rfl⟩;exact Vr
structure bA where
 life:Nat
 list:List aq
 prom:List aq
 ab:List av
def iL:bA:=⟨0,[],[],[]⟩
def ax(x:aq):av:=(x.br,x.life,x.cI)
def fD(x:Rec):av:=(x.br,x.life,x.cI)
def cA(l:List aq)(a:av):Bool:=l.any λx=>decide (ax x=a)
def dx(l:List av)(a:av):Bool:=l.any λx=>decide (x=a)
def ia(l:List aq)(a:av):List aq:=l.filter λx=>!decide (ax x=a)
def wO(s:bA)(r:Rec):Option bA:=if r.n<=s.life then none else some ⟨r.n,s.list,s.prom,s.ab⟩
def uD(s:bA)(r:Rec):Option bA:=if ¬r.n=s.list.length then none else if cA s.list (ax r.e)then none else if dx s.ab (ax r.e)then none else some ⟨s.life,s.list++[r.e],ia s.prom (ax r.e),s.ab⟩
def uE(s:bA)(r:Rec):Option bA:=if cA s.list (ax r.e)then none else if cA s.prom (ax r.e)then none else if dx s.ab (ax r.e)then none else some ⟨s.life,s.list,s.prom++[r.e],s.ab⟩
def uH(s:bA)(r:Rec):Option bA:=if cA s.list (fD r)then none else if dx s.ab (fD r)then none else some ⟨s.life,s.list,ia s.prom (fD r),s.ab++[fD r]⟩
def wP(s:bA)(r:Rec):Option bA:=if cA s.prom (fD r)then some ⟨s.life,s.list,ia s.prom (fD r),s.ab⟩else none
def fh(s:bA)(r:Rec):Option bA:=if r.kind=1 then wO s r else if r.kind=2 then uD s r else if r.kind=3 then uE s r else if r.kind=4 then uH s r else wP s r
def pX(s:bA)(r:Rec):bA×Int:=if gh r then (match fh s r with|none=>(s,160)|some t=>(t,0))else (s,110)
structure bz where
 e:aq
 asked:Bool
 deriving DecidableEq
def nE(x:aq):av:=(x.br,x.life,x.cI)
def ajT(x:aq):List UInt8:=if bP x then eO x else []
def qX(x:aq):Bool:=decide (3000<(ajT x).length)
def nF(a:av)(t:bz):Bool:=decide (nE t.e=a)
def ju(l:List bz)(a:av):Option Nat:=l.findIdx? (nF a)
def ph(l:List bz)(a:av):Int:=match ju l a with|some k=>(k:Int)|none=>-1
def qR(l:List bz)(a:av):Option Nat:=match ju l a with|some k=>if (l[k]?.map bz.asked)=some true then none else some k|none=>none
def y6(l:List bz)(a:av):Int:=match qR l a with|some k=>(k:Int)|none=>-1
def ui(l:List bz)(t:bz):List bz×Int :=
 if (ju l (nE t.e)).isSome then (l,170)else if bP t.e=false then (l,110)else if 8<=l.length then (l,171)else if qX t.e then (l,172)else (l++[t],0)
def uk(a:av)(c:Int):aq:=⟨1,a.1,a.2.1,a.2.2,c,0,[],[]⟩
def vV(l:List bz)(a:av)(c:Int):List bz×Int:=ui l ⟨uk a c,false⟩
def mE(x:aq)(e:List bh):aq:={ x with es:=x.es++[e] }
def nv(l:List bz)(a:av)(e:List bh):List bz×Int :=
 match qR l a with
 | none=>(l,170)
 | some k=>match l[k]? with
  | none=>(l,170)
  | some t=>if fK e=false then (l,40)else if 8<=t.e.es.length then (l,171)else if qX (mE t.e e)then (l,172)else (l.set k ⟨mE t.e e,t.asked⟩,0)
def ny(l:List bz)(a:av):List bz×Int :=
 match qR l a with
 | none=>(l,170)
 | some k=>match l[k]? with
  | none=>(l,170)
  | some t=>(l.set k ⟨t.e,true⟩,0)
def fc(l:List bz)(a:av):List bz:=match ju l a with|none=>l|some k=>l.eraseIdx k
def pQ(l:List bz)(a:av):List bz×Int:=if (qR l a).isSome then (fc l a,0)else (l,170)
def s6(l:List bz)(x:aq):List bz×Int:=ui l ⟨x,true⟩
def jj(l:List bz):List aq:=((l.filter bz.asked).map bz.e).take 4
def wq:bz:=⟨eW,false⟩
def vW(l:List bz)(a:av):bz×Bool:=match l.find? (nF a)with|some t=>(t,true)|none=>(wq,false)
structure ajU where
 kind:Int
 id:av
 cl:Int
 e:List bh
 x:aq
def ajV(l:List bz)(c:ajU):List bz×Int :=
 if c.kind=1 then vV l c.id c.cl else if c.kind=2 then nv l c.id c.e else if c.kind=3 then ny l c.id else if c.kind=4 then pQ l c.id
 else if c.kind=5 then s6 l c.x else if c.kind=6 then (fc l c.id,0)else (l,0)
structure jF(l:List bz):Prop where
 len:l.length<=8
 each:∀t∈l,bP t.e=true/\cK t.e/\qX t.e=false
 Jd:∀(i j:Nat) (s t:bz),l[i]?=some s->l[j]?=some t->nE s.e=nE t.e->i=j
theorem J0{l:List bz}{a:av}{k:Nat}(h:ju l a=some k):∃t,l[k]?=some t/\nE t.e=a/\∀j,j<k->∀s,l[j]?=some s->nE s.e≠a:=by unfold ju at h;rw[List.findIdx?_eq_some_iff_getElem]at h;obtain⟨hk,y,u⟩:=h;refine⟨l[k],List.getElem?_eq_getElem hk,by simpa [nF]using y,λj A s i=>?_⟩;have:=u j A;rw[List.getElem?_eq_getElem af]at i;injection i with i;rw[i]at this;simpa [nF]using this
theorem abT{l:List bz}{a:av}(h:ju l a=none):∀t∈l,nE t.e≠a:=by unfold ju at h;rw[List.findIdx?_eq_none_iff]at h;intro t i;simpa [nF]using h t i
theorem aq7{l:List bz}{a:av}(h:∀t∈l,nE t.e≠a):vW l a=(wq,false):=by unfold vW;rw[List.find?_eq_none.2 (λt i=>by simpa [nF]using h t i)]
theorem Ob{l:List bz}{a:av}{k:Nat}(h:qR l a=some k):∃t,l[k]?=some t/\nE t.e=a/\t.asked=false/\ju l a=some k:=by
 unfold qR at h;split at h
 ·rename_i j i;obtain⟨t,s,u,_⟩:=J0 i;split at h
  ·cases h
  ·rename_i hn;injection h with h;subst h;rw[s]at hn;exact⟨t,s,u,by simpa using hn,i⟩
 ·cases h
theorem jF.nil:jF []:=⟨aj,aj,aj⟩
theorem jF.set{l:List bz}(A:jF l){k:Nat}{t u:bz}(hk:l[k]?=some t)(M:nE u.e=nE t.e)(I:bP u.e=true/\cK u.e/\qX u.e=false):jF (l.set k u):=by
 have D:k<l.length:=(List.getElem?_eq_some_iff.1 hk).1;refine⟨by simpa using A.len,λs h=>?_,λi j s r h G H=>?_⟩
 ·rcases List.mem_or_eq_of_mem_set h with h|rfl
  ·exact A.each s h
  ·exact I
 ·have key:∀(i:Nat) (s:bz),(l.set k u)[i]?=some s->∃y,l[i]?=some y/\nE y.e=nE s.e:=by
   intro i s h;by_cases B:k=i
   ·subst B;rw[List.getElem?_set_self D]at h;injection h with h;exact⟨t,hk,by rw[<- h,M]⟩
   ·rw[List.getElem?_set_ne B]at h;exact⟨s,h,rfl⟩
  obtain⟨y,E,F⟩:=key i s h;obtain⟨L,J,C⟩:=key j r G;exact A.Jd i j y L E J (by rw[F,C,H])
theorem jF.snoc{l:List bz}(E:jF l){t:bz}(h8:l.length<8)(hn:∀s∈l,nE s.e≠nE t.e)(G:bP t.e=true/\cK t.e/\qX t.e=false):jF (l++[t]):=by
 refine⟨aU,λs u=>?_,λi j s r u D A=>?_⟩
 ·rcases List.mem_append.1 u with u|u
  ·exact E.each s u
  ·simp at u;subst u;exact G
 ·have key:∀(i:Nat) (s:bz),(l++[t])[i]?=some s->(i<l.length/\l[i]?=some s)∨(i=l.length/\s=t):=by
   intro i s u;by_cases B:i<l.length
   ·rw[List.getElem?_append_left B]at u;exact .inl ⟨B,u⟩
   ·rw[List.getElem?_append_right af]at u;have F:i-l.length=0:=by
     by_cases h:i-l.length=0
     ·exact h
     ·rw[List.getElem?_eq_none aU]at u;cases u
    rw[F]at u;simp at u;exact .inr ⟨af,u.symm⟩
  rcases key i s u with ⟨B,C⟩|⟨rfl,rfl⟩
  ·rcases key j r D with ⟨H,y⟩|⟨rfl,rfl⟩
   ·exact E.Jd i j s r C y A
   ·exact absurd A (hn s (List.mem_of_getElem? C))
  ·rcases key j r D with ⟨H,y⟩|⟨rfl,rfl⟩
   ·exact absurd A.symm (hn r (List.mem_of_getElem? y))
   ·rfl
theorem jF.erase{l:List bz}(u:jF l)(k:Nat):jF (l.eraseIdx k):=by
 refine⟨bq (List.length_eraseIdx_le l k) u.len,λs h=>u.each s (List.mem_of_mem_eraseIdx h),λi j s r h t y=>?_⟩;rw[List.getElem?_eraseIdx]at h t;split at h <;> split at t
 ·exact u.Jd i j s r h t y
 ·have:=u.Jd i (j+1) s r h t y;omega
 ·have:=u.Jd (i+1) j s r h t y;omega
 ·have:=u.Jd (i+1) (j+1) s r h t y;omega
theorem O4{l:List bz}(i:jF l)(t:bz)(j:cK t.e):jF (ui l t).1:=by
 unfold ui;split
 ·exact i
 ·rename_i s;split
  ·exact i
  ·rename_i ho;split
   ·exact i
   ·split
    ·exact i
    ·rename_i h8 hb;have hn:ju l (nE t.e)=none:=by simpa using s
     exact i.snoc af (abT hn) ⟨KB,j,by simpa using hb⟩
theorem asH{x:aq}{e:List bh}(h:bP x=true)(hk:x.kind=1)(h8:x.es.length<8)(i:fK e=true):bP (mE x e)=true:=by obtain⟨j,b,l,s,cl,u,f,es⟩:=x;simp only[mE];simp only at hk h8;subst hk;simp only[bP,cz,decide_eq_true_eq,if_true,List.all_append,cT,List.length_singleton]at h⊢;simp only[List.all_cons,List.all_nil,Bool.and_true,i];exact⟨h.1,⟨⟨h.2.1.1,af⟩,h.2.2,trivial⟩⟩
theorem Uo{l:List bz}(hl:jF l)(c:ajU)(hi:bU c.id.1/\c.id.2.1<18446744073709551616/\c.id.2.2<18446744073709551616)(hc:bU c.cl)(E:∀a∈c.e,mV a)(s:cK c.x)
 (B:∀t∈l,t.asked=false->t.e.kind=1):jF (ajV l c).1:=by
 unfold ajV
 split
 ·exact O4 hl _ avO
 ·split
  ·unfold nv;split
   ·exact hl
   ·rename_i k hk;obtain⟨t,i,A,j,_⟩:=Ob hk;rw[i];simp only;split
    ·exact hl
    ·rename_i C;split
     ·exact hl
     ·rename_i h8;split
      ·exact hl
      ·rename_i hb;obtain⟨u,D,O⟩:=hl.each t (List.mem_of_getElem? i);refine hl.set i rfl ⟨asH u (B t (List.mem_of_getElem? i) j) af (by simpa using C),?_,by simpa using hb⟩;obtain⟨H,M,F,G,J,I,L,y⟩:=D;refine⟨H,M,F,G,J,I,L,?_⟩;intro e N;rcases List.mem_append.1 N with h|h
       ·exact y e h
       ·simp at h;subst h;exact E
  ·split
   ·unfold ny;split
    ·exact hl
    ·rename_i k hk;obtain⟨t,i,A,j,_⟩:=Ob hk;rw[i];exact hl.set i rfl (hl.each t (List.mem_of_getElem? i))
   ·split
    ·unfold pQ;exact afg
    ·split
     ·exact O4 hl _ s
     ·exact afg
section
open Go Go.RowKit Go.ChangeShapes Go.WideShapes Go.ChangeAt
abbrev fW(t:bz)(vf ve:Value):Array Value:=#[.int .i64 t.e.kind,.int .i64 t.e.br,.int .u64 (t.e.life:Int),.int .u64 (t.e.cI:Int),.int .i64 t.e.cl,.int .u64 (t.e.sub:Int),vf,ve,.bool t.asked]
def cJ:cF bz where
 size:=9
 rel t cs w:=∃vf h,cs=(fW t vf h).toList/\eJ t.e.f vf w/\ar dJ t.e.es h w
 len:=by rintro _ _ _⟨vf,h,rfl,_⟩;rfl
 one:=by rintro x _ _⟨vf,h,rfl,⟨A,c,rfl,_⟩,⟨D,d,rfl,_⟩⟩ u i;simp at i;rcases i with rfl|rfl|rfl|rfl|rfl|rfl|rfl|rfl|rfl <;> rfl
 st:=by rintro _ _ _ _⟨vf,h,rfl,j,s⟩ k;exact⟨vf,h,rfl,dB _ _ _ _ j k,aW s k⟩
def Mu(t:bz)(v:Value)(w:World):Prop:=∃vf h,v=.agg (fW t vf h)/\eJ t.e.f vf w/\ar dJ t.e.es h w
end
def um(B:Nat)(x:aq)(v:Value)(w:World):Prop:=∃vf h,v=.agg (aA x vf h)/\fC w B vf x.f/\aX B B 34 dJ x.es h w
theorem avP{B:Nat}{x:aq}{v:Value}{w:World}(h:um B x v w):∀w',aH B none w w'->um B x v w':=by obtain⟨vf,s,e,i,j⟩:=h;exact λw' u=>⟨vf,s,e,i.up u,j.up (aG _) u⟩
theorem auu{B:Nat}{x:aq}{v:Value}{w:World}(h:um B x v w):cR x v w:=by obtain⟨vf,j,e,s,i⟩:=h;exact⟨vf,j,e,sU s,i.ar⟩
theorem NX(x:aq)(v:Value)(w:World)(h:cR x v w)(X:eD x) :
 Calls prog 83 #[v] w λe w'=>∃M,e=.returned M/\um w.heap.size x M w'/\K w w':=by
 have U:=ae func83
 have O:=ae ntmps83
 have zR:=ae results83
 obtain⟨vf,ve,rfl,V,he⟩:=h
 obtain⟨A,c,J,H⟩:=V
 obtain rfl:=J
 obtain⟨D,d,J,he,S⟩:=he
 obtain rfl:=J
 obtain⟨Y,R,I⟩:=X
 obtain⟨k,b,l,s,cl,u,f,es⟩:=x
 simp only at H he S Y R I⊢
 have B:=(ai.new w 102 (aA ⟨k,b,l,s,cl,u,f,es⟩ (.slice A f.length c) (.slice D es.length d))).alloc (.cells ez 102)
 have C:=ai.new (w.alloc (.cells (aA ⟨k,b,l,s,cl,u,f,es⟩ (.slice A f.length c) (.slice D es.length d)) 102)) 102 ez
 have G:K w ((w.alloc (.cells (aA ⟨k,b,l,s,cl,u,f,es⟩ (.slice A f.length c) (.slice D es.length d)) 102)).alloc (.cells ez 102)):=((K.rf w).al _).al _
 have hz:(w.alloc (.cells (aA ⟨k,b,l,s,cl,u,f,es⟩ (.slice A f.length c) (.slice D es.length d)) 102)).heap.size=w.heap.size+1:=aj
 rw[hz]at C
 clear hz
 have yi:=ae I
 clear I
 go_enter U.aa,O.aa
 go_upto_region 1 with (fail)
 generalize World.alloc (World.alloc w _) _=w1 at *
 have T:=(H.below G (aG _)).more G.size
 have hr1:=C.lt
 clear H
 have q:=B.cell
 have z:=B.frozen
 go_wp2_with (at_builtin;refine iC rfl _ _ 36 rfl w1.heap.size 81 _ 5 56 TF _ 0 [] rfl (iF _ _ _ _) _ A f.length c (f.flatMap dY) rfl T (Ic f) ?p1 (aG _) ?_)
 case p1=>omega
 intro Q t F _ _ aO
 have E:=B.below aO B.lt
 have L:=C.below aO C.lt
 have N:=G.tr aO
 obtain⟨A1,c1,rfl,-⟩:=(show fC t w1.heap.size Q f from F).slice
 clear q z B C
 have q:=E.cell
 have z:=E.frozen
 have Z:=aO.size
 clear aO
 go_upto_region 3 with (fail)
 have eI:ai (t.setCell ⟨w.heap.size,6,none⟩ (.slice A1 f.length c1)) w.heap.size 102 #[.int .i64 k,.int .i64 b,.int .u64 (l:Int),.int .u64 (s:Int),.int .i64 cl,.int .u64 (u:Int),.slice A1 f.length c1,.slice D es.length d]:=E.aR 6 (.slice A1 f.length c1)
 have dz:=L.far (p:=⟨w.heap.size,6,none⟩) aj (.slice A1 f.length c1)
 have k3:K w (t.setCell ⟨w.heap.size,6,none⟩ (.slice A1 f.length c1)):=K.set N (aG _) 6 _
 have eY:fC (t.setCell ⟨w.heap.size,6,none⟩ (.slice A1 f.length c1)) w1.heap.size (.slice A1 f.length c1) f:=fC.up F (aH.set af 6 _)
 have rA:w.heap.size+1<(t.setCell ⟨w.heap.size,6,none⟩ (.slice A1 f.length c1)).heap.size:=KJ
 clear E L N F q z
 generalize t.setCell _ _=w3 at *
 have uI:=K.rf w3
 have q:=eI.cell
 go_wp2_with fail
 clear q
 go_loopw [3,5,13] (fun o _ i W=>∃j:Nat,j<=es.length/\i=.int .i64 (j:Int)/\aX w3.heap.size w3.heap.size 34 dJ (es.take j) o W/\K w3 W) (fun _ _ i _=>es.length-(intOf i).toNat)
 case atStart=>exact⟨0,af,rfl,Fa,uI⟩
 case round => exact KK
theorem Tt(x:aq)(v:Value)(w:World)(h:cR x v w)(X:eD x) :
 Calls prog 217 #[v] w λe w'=>∃M,e=.returned M/\um w.heap.size x M w'/\K w w':=by
 have U:=ae func217
 have O:=ae ntmps217
 have zR:=ae results217
 obtain⟨vf,ve,rfl,V,he⟩:=h
 obtain⟨A,c,J,H⟩:=V
 obtain rfl:=J
 obtain⟨D,d,J,he,S⟩:=he
 obtain rfl:=J
 obtain⟨Y,R,I⟩:=X
 obtain⟨k,b,l,s,cl,u,f,es⟩:=x
 simp only at H he S Y R I⊢
 have B:=(ai.new w 102 (aA ⟨k,b,l,s,cl,u,f,es⟩ (.slice A f.length c) (.slice D es.length d))).alloc (.cells ez 102)
 have C:=ai.new (w.alloc (.cells (aA ⟨k,b,l,s,cl,u,f,es⟩ (.slice A f.length c) (.slice D es.length d)) 102)) 102 ez
 have G:K w ((w.alloc (.cells (aA ⟨k,b,l,s,cl,u,f,es⟩ (.slice A f.length c) (.slice D es.length d)) 102)).alloc (.cells ez 102)):=((K.rf w).al _).al _
 have hz:(w.alloc (.cells (aA ⟨k,b,l,s,cl,u,f,es⟩ (.slice A f.length c) (.slice D es.length d)) 102)).heap.size=w.heap.size+1:=aj
 rw[hz]at C
 clear hz
 have yi:=ae I
 clear I
 go_enter U.aa,O.aa
 go_upto_region 1 with (fail)
 generalize World.alloc (World.alloc w _) _=w1 at *
 have T:=(H.below G (aG _)).more G.size
 have hr1:=C.lt
 clear H
 have q:=B.cell
 have z:=B.frozen
 go_wp2_with (at_builtin;refine iC rfl _ _ 36 rfl w1.heap.size 81 _ 5 56 TF _ 0 [] rfl (iF _ _ _ _) _ A f.length c (f.flatMap dY) rfl T (Ic f) ?p1 (aG _) ?_)
 case p1=>omega
 intro Q t F _ _ aO
 have E:=B.below aO B.lt
 have L:=C.below aO C.lt
 have N:=G.tr aO
 obtain⟨A1,c1,rfl,-⟩:=(show fC t w1.heap.size Q f from F).slice
 clear q z B C
 have q:=E.cell
 have z:=E.frozen
 have Z:=aO.size
 clear aO
 go_upto_region 3 with (fail)
 have eI:ai (t.setCell ⟨w.heap.size,6,none⟩ (.slice A1 f.length c1)) w.heap.size 102 #[.int .i64 k,.int .i64 b,.int .u64 (l:Int),.int .u64 (s:Int),.int .i64 cl,.int .u64 (u:Int),.slice A1 f.length c1,.slice D es.length d]:=E.aR 6 (.slice A1 f.length c1)
 have dz:=L.far (p:=⟨w.heap.size,6,none⟩) aj (.slice A1 f.length c1)
 have k3:K w (t.setCell ⟨w.heap.size,6,none⟩ (.slice A1 f.length c1)):=K.set N (aG _) 6 _
 have eY:fC (t.setCell ⟨w.heap.size,6,none⟩ (.slice A1 f.length c1)) w1.heap.size (.slice A1 f.length c1) f:=fC.up F (aH.set af 6 _)
 have rA:w.heap.size+1<(t.setCell ⟨w.heap.size,6,none⟩ (.slice A1 f.length c1)).heap.size:=KJ
 clear E L N F q z
 generalize t.setCell _ _=w3 at *
 have uI:=K.rf w3
 have q:=eI.cell
 go_wp2_with fail
 clear q
 go_loopw [3,5,13] (fun o _ i W=>∃j:Nat,j<=es.length/\i=.int .i64 (j:Int)/\aX w3.heap.size w3.heap.size 34 dJ (es.take j) o W/\K w3 W) (fun _ _ i _=>es.length-(intOf i).toNat)
 case atStart=>exact⟨0,af,rfl,Fa,uI⟩
 case round => exact KK
