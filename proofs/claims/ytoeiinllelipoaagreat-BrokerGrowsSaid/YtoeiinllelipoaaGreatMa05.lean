/-
  The walk of filter.Encode (layer 5). Conditions: none.
-/
import Derived.Test.YtoeiinllelipoaaGreatMa04
import Derived.Deep.CutBlock
import Derived.Test.YtoeiinllelipoaaGreatMz
set_option maxRecDepth 100000
set_option maxHeartbeats 16000000
set_option linter.unusedVariables false
set_option linter.unusedSimpArgs false
namespace Go.Proofs.YtoeiinllelipoaaGreat
open Go Go.RowKit Tryz
theorem ast{k n:Int}{s:ByteArray}(i:-9223372036854775808<=n)(j:n<=9223372036854775807)(y:s.size<=40):(nC k n s).length<=67:=by have j:=cG (bf k) (fI _);have t:=cG (ue k n) (Kl _ _ i (by assumption));have u:=cG s.size af;simp[nC];omega
def Ft(t:bc):List UInt8:=if t.2.1==8 then []else nC t.2.2.1 t.2.2.2.1 t.2.2.2.2
theorem ajS{t:bc}(h:fU t=true):t.2.2.2.2.size<=40:=by
 obtain⟨_,_,_,h8,hn⟩:=EV h;by_cases e:t.2.1=8
 ·have:=h8 e;rw[this];decide
 ·exact (Ii (hn e)).2
theorem acA{t:bc}(h:fU t=true)(i:iH t):(Ft t).length<=67:=by
 have j:=ajS h;unfold Ft;split
 ·simp
 ·exact ast i.2.2.1 i.2.2.2 j
theorem avI{t:bc}(h:fU t=true)(s:iH t):(jS t).length<=101:=by obtain⟨j,_,_,_,_⟩:=EV h;have i:=acA h s;have u:=cG t.1.size af;have A:=cG (bf t.2.1) (fI _);have y:t.1.data.size<=16:=j;unfold jS;unfold Ft at i;simp only[cT];simp only[dh,Array.length_toList];omega
theorem asu(l:List bc)(hk:∀x∈l,(jS x).length<=101):(l.flatMap jS).length<=101*l.length:=by exact aeE
theorem asv(l:List bc)(k:Nat)(j:okF l=true)(t:∀x∈l,iH x):(aD l.length++(l.take k).flatMap jS).length<=1000:=by
 obtain⟨A,s⟩:=AV j;have u:=cG l.length af;have y:=asu (l.take k) λx i=>avI (s x (lE i)) (t x (lE i))
 have h6:(l.take k).length<=8:=aU;exact U3
theorem aqX(l:List bc)(k:Nat)(h:k<l.length):aD l.length++(l.take (k+1)).flatMap jS=aD l.length++(l.take k).flatMap jS++(aD l[k].1.size++dh l[k].1)++aD (bf l[k].2.1)++Ft l[k]:=by rw[gE h,List.flatMap_append,oc,List.flatMap_nil,List.append_nil];simp only[jS,Ft,dG]
theorem aoB(A:Option Addr)(c:Nat)(l:List bc)(w:World)(B:Nat)(Z:Reads w B 5 A l.length (l.flatMap dY))(C:B<=w.heap.size)(R:∀x∈l,iH x) :
 Calls prog 173 #[.slice A l.length c] w λe w' =>
  ∃v',e=.returned (.tuple #[v',.int .i64 (mc l)])/\Own w' w.heap.size 5 v' (Bu l)/\Below w.heap.size w w':=by
 have hch:=ae (Th A c l w B Z C)
 cases hok:okF l
 ·have HE:Hid (mc l=50):=ae OW;have HR:Hid (Bu l=[]):=ae (by simp[Bu,hok]);clear hok;have hne:(mc l != 0)=true:=fL;go_enter func173,ntmps173;exact aeY
 ·have HE:Hid (mc l=0):=ae OW;have HR:Hid (Bu l=jx l):=ae (by simp[Bu,hok]);have hne:(mc l != 0)=false:=fL;obtain⟨h8,hL⟩:=AV hok;have ya:=ae λk=>asv l k hok R
  have HA:=ae hL;have HI:=ae R;have HS:=ae (aqX l);have YS:=ae Z;clear hok hL R Z;go_enter func173,ntmps173;go_wp2_with fail
  refine hch.aa.mono ?_;rintro e w1⟨rfl,aO⟩;go_wp2_with fail
  refine (vJ none 0 0 [] l.length af w1 0 (Reads.nil _ _ _ _) af af).mono ?_;rintro e w2⟨v2,rfl,X,hb2⟩;have FF:=aO.trans (hb2.mono aO.size);rw[aJ]at X;have ho:=rS aO.size X rfl;clear X aO hb2;go_wp2_with fail
  go_loopw [5,19] (fun o i wr=>∃k:Nat,k<=l.length/\i=.int .i64 (k:Int)/\Own wr w.heap.size 5 o (aD l.length++(l.take k).flatMap jS)/\Below w.heap.size w wr) (fun _ i _=>l.length-(intOf i).toNat)
  case atStart=>exact⟨0,af,rfl,KB,FF⟩
  case round =>
   obtain⟨k,hk,rfl,hok,hb⟩:=hrel;by_cases H:k<l.length
   ·have eF:(k:Int)<(l.length:Int):=af;obtain⟨b,F,rfl,D,hcell⟩:=YS.aa.DW af;obtain⟨e0,e1,e2,e3,e4⟩:=hcell k H;have d0:=(hb.cell (p:=⟨b,F+k*5,none⟩) (bB D C)).trans e0;have d1:=(hb.cell (p:=⟨b,F+k*5+1,none⟩) (bB D C)).trans e1;have d2:=(hb.cell (p:=⟨b,F+k*5+2,none⟩) (bB D C)).trans e2;have d3:=(hb.cell (p:=⟨b,F+k*5+3,none⟩) (bB D C)).trans e3;have d4:=(hb.cell (p:=⟨b,F+k*5+4,none⟩) (bB D C)).trans e4;clear e0 e1 e2 e3 e4 hcell;have hz:=hb.size;have J:=HA.aa _ (bW H);have hpt:=EV J;have ayx:=ajS J;have S:=(HI.aa _ (bW H)).2;have HVL:=ae (acA J (HI.aa _ (bW H)));have Q:=ae (HS.aa k H);have hlk:=ya.aa k;clear J;generalize l[k]=x at *;obtain⟨s,op,j,u,t⟩:=x;simp only at d0 d1 d2 d3 d4 hpt ayx S Q;obtain⟨ayw,dV,Q3,-,-⟩:=hpt;generalize (l.take k).flatMap jS=T at *;obtain⟨A1,c1,rfl,Y⟩:=hok.slice;have hlm:(aD l.length++T).length<=1000:=hlk;generalize pB:(aD l.length++T).length=m1 at Y hlk⊢;clear pB hok;have QV:=λW=>run_bytes_of_string (P:=prog) W 9 42 5 s underlying9 underlying42 underlying5
    go_wp2_with fail
    have dC:=ai.new wr 81 #[.string s,.int .i64 op,.int .i64 j,.int .i64 u,.string t];have U:Below wr.heap.size wr ((wr.alloc (.cells #[.string s,.int .i64 op,.int .i64 j,.int .i64 u,.string t] 81)).alloc (.cells (bytesRow s (grownCap (wr.alloc (.cells #[.string s,.int .i64 op,.int .i64 j,.int .i64 u,.string t] 81)) s.size 0 5)) 5 ((bytesRow s (grownCap (wr.alloc (.cells #[.string s,.int .i64 op,.int .i64 j,.int .i64 u,.string t] 81)) s.size 0 5)).size,(bytesRow s (grownCap (wr.alloc (.cells #[.string s,.int .i64 op,.int .i64 j,.int .i64 u,.string t] 81)) s.size 0 5)).size+1))).drew:=(((aN _ _).alloc (aG _) _).alloc aj _).drew;have rD:=(Y.below U (aG _)).more (B':=wr.heap.size+1+1) af;refine (N0 A1 _ m1 c1 s.size _ _ (dh s) _ (wr.heap.size+1+1) rD (Reads.ajR _ s _ _ _ (wr.heap.size+1) aj) aj af af).mono ?_;rintro e G⟨v3,rfl,N,M⟩;have y:=((dC.alloc (.cells (bytesRow s (grownCap (wr.alloc (.cells #[.string s,.int .i64 op,.int .i64 j,.int .i64 u,.string t] 81)) s.size 0 5)) 5 ((bytesRow s (grownCap (wr.alloc (.cells #[.string s,.int .i64 op,.int .i64 j,.int .i64 u,.string t] 81)) s.size 0 5)).size,(bytesRow s (grownCap (wr.alloc (.cells #[.string s,.int .i64 op,.int .i64 j,.int .i64 u,.string t] 81)) s.size 0 5)).size+1))).drew).below M aU;have V:Below wr.heap.size wr G:=U.trans (M.mono aU);have hgt:wr.heap.size<G.heap.size:=bB aU M.size;have q1:=y.cell 1;have q2:=y.cell 2;have q3:=y.cell 3;have q4:=y.cell 4;simp at q1 q2 q3 q4;clear U M Y rD dC QV;have N:Own G wr.heap.size 5 v3 (aD l.length++T++(aD s.size++dh s)):=rS aU N aeZ;obtain⟨A3,c3,rfl,O⟩:=N.slice;have hpl:=cG s.size af;have rE:(aD l.length++T++(aD s.size++dh s)).length<=1100:=by simp only[cT]at hlm⊢;simp;omega
    have zD:(aD l.length++T++(aD s.size++dh s)++aD (bf op)).length<=1200:=by have:=cG (bf op) (fI op);simp only[cT]at rE⊢;omega
    generalize (aD l.length++T++(aD s.size++dh s)).length=m3 at O rE⊢;clear N;go_wp2_with fail
    have hN:=vJ A3 m3 c3 _ (bf op) (fI op) G G.heap.size O (aG _) af;rw[show ((bf op:Nat):Int)=op by unfold bf;omega]at hN;refine hN.mono ?_;rintro e L⟨v4,rfl,cU,hb4⟩;have E:=y.below hb4 hgt;have r1:=E.cell 1;have r2:=E.cell 2;have r3:=E.cell 3;have r4:=E.cell 4;simp at r1 r2 r3 r4;clear q1 q2 q3 q4 y E O;have Mh:Below w.heap.size w L:=(hb.trans (V.mono hz)).trans (hb4.mono (bq hz V.size));have iX:=Mh.size;have cU:=rS (bq hz V.size) cU rfl;by_cases hop:op=8
    ·subst hop;have cU:Own L w.heap.size 5 v4 (aD l.length++(l.take (k+1)).flatMap jS):=by rw[Q.aa];simpa [Ft]using cU
     exact ae0
    ·obtain⟨A4,c4,rfl,hR4⟩:=cU.slice;generalize (aD l.length++T++(aD s.size++dh s)++aD (bf op)).length=m4 at hR4 zD⊢;clear cU;go_wp2_with fail
     refine (abh A4 m4 c4 _ j u t L L.heap.size hR4 (aG _) af af S.2.1 S.2.2).mono ?_;rintro e w5⟨v5,rfl,I,gy⟩;have ayy:Below w.heap.size w w5:=Mh.trans (gy.mono iX);have I:=rS iX I rfl;have I:Own w5 w.heap.size 5 v5 (aD l.length++(l.take (k+1)).flatMap jS):=by rw[Q.aa];simpa [Ft,hop]using I
     go_wp2;go_roundw
     case rel=>exact⟨k+1,af,bO,I,ayy⟩
     case measure=>simp[intOf];omega
   ·have eF:¬(k:Int)<(l.length:Int):=af;have ho:Own wr w.heap.size 5 u5 (Bu l):=by rw[HR.aa];unfold jx;rwa [eT af]at hok
    exact ae1
theorem apM{l:List bc}{v:Value}{w:World}(h:eJ l v w)(s:∀x∈l,iH x):Calls prog 173 #[v] w λe w' =>
 ∃i,e=.returned (.tuple #[i,.int .i64 (mc l)])/\Own w' w.heap.size 5 i (Bu l)/\Below w.heap.size w w':=by
 obtain⟨A,c,rfl,j⟩:=h
 exact aoB A c l w _ j (aG _) s
theorem tM{l:List UInt8}{v:Value}{w:World}(n:Nat)(h:sl l v w)(hn:n<18446744073709551616)(s:l.length<=1000000000) :
 Calls prog 46 #[v,.int .u64 (n:Int)] w λe w'=>∃i,e=.returned i/\Own w' w.heap.size 5 i (l++aD n)/\K w w':=by
 obtain⟨A,c,rfl,j⟩:=h
 exact vJ A _ c l n hn w _ j (aG _) s
theorem Kc{l b:List UInt8}{v u:Value}{w:World}(h:sl l v w)(k:sl b u w)(t:l.length<=1000000000)(hb:b.length<=1000000000) :
 Calls prog 98 #[v,u] w λe w'=>∃i,e=.returned i/\Own w' w.heap.size 5 i (l++gZ b)/\K w w':=by
 obtain⟨A,c,rfl,s⟩:=h
 obtain⟨D,d,rfl,y⟩:=k
 refine (N0 A D _ c _ d l b w _ s y (aG _) t hb).mono ?_
 rintro e w'⟨i,rfl,j,hk⟩
 exact⟨i,rfl,rS (aG _) j (by simp[gZ]),hk⟩
theorem ajy(w:World):sl [] (.slice none 0 0) w:=⟨none,0,rfl,Reads.nil _ _ _ _⟩
def nY(x:aq):List UInt8:=if bP x then eO x else []
theorem acB(x:aq)(h:cK x):(mD x).length<=54:=by obtain⟨_,_,_,i,j,s,_⟩:=h;have B:=cG (bf x.kind) (fI _);have C:=cG (bf x.br) (fI _);have t:=cG x.life i;have y:=cG x.cI j;have A:=cG (bf x.cl) (fI _);have u:=cG x.sub s;unfold mD;simp only[cT];omega
def y5(x:aq)(k:Nat):List UInt8:=mD x++aD x.es.length++(x.es.take k).flatMap λe=>gZ (jb e)
theorem aqY(x:aq)(k:Nat)(h:k<x.es.length):y5 x (k+1)=y5 x k++gZ (jb x.es[k]):=by unfold y5;rw[gE h,List.flatMap_append,oc,List.flatMap_nil,List.append_nil];simp only[dG]
theorem asw(x:aq)(k:Nat)(j:cK x)(h8:x.es.length<=8)(s:∀e∈x.es,fK e=true):(y5 x k).length<=20000:=by
 have t:=acB x j;have u:=cG x.es.length af;have y:=abP (x.es.take k) λe i=>⟨s e (lE i),j.2.2.2.2.2.2.2 e (lE i)⟩
 have A:(x.es.take k).length<=8:=aU;unfold y5;simp only[cT];omega
theorem NR(x:aq)(v:Value)(w:World)(h:cR x v w)(hfit:cK x) :
 Calls prog 97 #[v] w λe w' =>
  ∃v',e=.returned (.tuple #[v',.int .i64 (oI x)])/\Own w' w.heap.size 5 v' (nY x)/\K w w':=by
 have L:=ae λW h=>JU x v W h
 have h':=h
 obtain⟨vf,S,rfl,hf,Z⟩:=h
 have T:=ai.new w 102 (aA x vf S)
 have y:K w (w.alloc (.cells (aA x vf S) 102)):=(K.rf w).al _
 have O:=ae (aw0 h')
 have HF:=ae hfit
 have Mk:=ae (acB x hfit)
 obtain⟨hik,hib,hic,U,X,hiu,Q,akj⟩:=hfit
 clear h'
 cases hok:bP x
 ·have HE:Hid (oI x=110):=ae (EX hok);have HR:Hid (nY x=[]):=ae (by simp[nY,hok]);have hne:(oI x != 0)=true:=fL;clear hok;go_enter func97,ntmps97;go_wp2_with fail
  generalize w.alloc _=w1 at *;refine (L.aa _ (O.aa _ y)).mono ?_;rintro e w2⟨rfl,t⟩;go_wp2;go_ret2;exact⟨_,rfl,Vk,y.tr t⟩
 have HE:Hid (oI x=0):=ae (Hz hok)
 have HR:Hid (nY x=eO x):=ae (by simp[nY,hok])
 have hne:(oI x != 0)=false:=fL
 obtain⟨-,-,hkk⟩:=Dg hok
 have HH:Hid (mD x=aD (bf x.kind)++eV (x.br,x.life,x.cI)++aD (bf x.cl)++aD x.sub):=ae (by simp[mD,eV])
 have h8:x.kind=1->x.es.length<=8/\∀e∈x.es,fK e=true:=by
  intro hk;rcases hkk with h|h|h
  ·exact h.2.2.2
  ·omega
  ·omega
 have zG:x.kind=2->okF x.f=true:=by
  intro hk;rcases hkk with h|h|h
  ·omega
  ·omega
  ·exact h.2.2
 have jA:x.kind=1∨x.kind=2∨x.kind=3:=af
 have H1:=ae λh=>U4 (x:=x) h
 have H2:=ae λh=>U6 (x:=x) h
 have H3:=ae λh1 h2=>U8 (x:=x) h1 h2
 have HU:=ae (aqY x)
 have HUL:=ae λk h=>asw x k HF.aa (h8 h).1 (h8 h).2
 have zH:Hid (y5 x 0=mD x++aD x.es.length):=ae (by simp[y5])
 have HUE:Hid (y5 x x.es.length=mD x++aD x.es.length++x.es.flatMap λe=>gZ (jb e)):=ae (by simp[y5])
 clear hok hkk HF
 obtain⟨k,b,l,s,cl,u,f,es⟩:=x
 simp only at T y hf Z hik hib hic U X hiu Q akj h8 zG jA HH H1 H2 H3 HU HUL zH HUE hne HE HR L O Mk⊢
 generalize mD ⟨k,b,l,s,cl,u,f,es⟩=hd at *
 generalize y5 ⟨k,b,l,s,cl,u,f,es⟩=up at *
 generalize nY ⟨k,b,l,s,cl,u,f,es⟩=R at *
 generalize eO ⟨k,b,l,s,cl,u,f,es⟩=E at *
 generalize oI ⟨k,b,l,s,cl,u,f,es⟩=C at *
 go_enter func97,ntmps97
 go_wp2_with fail
 generalize w.alloc _=w1 at *
 generalize w.heap.size=g at T⊢
 have qx:=T.cells
 have jV:=dB _ _ _ _ hf y
 have qj:=aW Z y
 refine (L.aa _ (O.aa _ y)).mono ?_
 rintro e w2⟨rfl,t⟩
 clear hf Z L O
 go_upto_region 4 with (fail)
 have BZ:=λW (kW:K w2 W)=>qx W (t.tr kW)
 have p0:=cG (bf k) (fI k)
 have pi0:(eV (b,l,s)).length<=27:=by have g2:=cG (bf b) (fI b);have g3:=cG l U;have g4:=cG s X;simp only[eV,cT];omega
 refine sR [ag (.pointer (some ⟨g,0,none⟩)),
  ag (.int .i64 (k)),
  ag (.int .u64 (bf k:Nat)),
  sl (aD (bf k)),
  ag (.pointer (some ⟨g,1,none⟩)),
  ag (cN (b,l,s)),
  sl (aD (bf k)++eV (b,l,s)),
  sl (aD (bf k)++eV (b,l,s))]
  [([],[]),([0],[(17,0)]),([1],[(18,1)]),([2],[(19,2)]),([],[]),([4],[(21,4)]),([3,5],[(20,3),(22,5)]),([6],[(23,6)])] 75 rfl ak ak ak ?F6 ?F9 ?_
 case F6 =>
  simp only[aI]
  and_intros
  all_goals first|exact jN _|exact iQ _|exact mz|simp
 case F9 =>
  simp only[mS]
  and_intros
  all_goals try trivial
  all_goals
   intro V W kW F
   try simp only[aI,aE,aF,ag]at F
   try simp[aL,aw,List.lookup,F,aE,aF,aS,execOp,ay,ag,aN,kW,BZ,go_sem]
  ·exact AY k
  ·exact Vm
  ·refine (Tc _ _ (b,l,s) W F.1 af ⟨hib,U,X⟩).mono ?_;rintro e w''⟨v',rfl,ho,hb⟩;exact⟨v',rfl,eN ho,hb⟩
 intro V w3 k3 F
 have h7:=F 7 aj
 simp only[aE,aF]at h7
 clear F
 simp only[bF,Act.put,cO,cM,cL]
 generalize V 7=v3 at *
 replace t:=t.tr k3
 clear BZ k3
 have rz:(aD (bf k)++eV (b,l,s)).length<=100:=aU
 generalize aD (bf k)++eV (b,l,s)=b3 at *
 go_wp2_with fail
 rw[AY cl]
 refine (tM (bf cl) h7 (fI cl) af).mono ?_
 rintro e w4⟨v4,rfl,cU,k4⟩
 have h4:=eN cU
 replace t:=t.tr k4
 have lh:(b3++aD (bf cl)).length<=110:=by have:=cG (bf cl) (fI cl);simp;omega
 generalize b3++aD (bf cl)=b4 at *
 clear cU k4 h7
 go_wp2_with fail
 refine (tM u h4 hiu af).mono ?_
 rintro e w5⟨v5,rfl,jq,k5⟩
 rw[<- HH.aa]at jq
 have G:=eN jq
 have hrow:=rS (base:=w.heap.size) (bq y.size t.size) jq rfl
 replace t:=t.tr k5
 have sA:=y.tr t
 clear k5 h4 lh rz HH
 obtain rfl|rfl|rfl:=jA
 ·obtain⟨h8,hall⟩:=h8 rfl;obtain⟨D,d,rfl,hes,hd⟩:=qj;have B4:=Mk.aa;go_wp2_with fail
  refine (tM es.length G af af).mono ?_;rintro e w6⟨v6,rfl,B,H⟩;rw[<- zH.aa]at B;have Qc:=rS (base:=w.heap.size) (bq y.size t.size) B rfl;replace t:=t.tr H;clear G hrow B H sA;go_wp2_with fail
  go_loopw [5,7,8,9,46] (fun o _ _ _ i wr=>∃j:Nat,j<=es.length/\i=.int .i64 (j:Int)/\Own wr w.heap.size 5 o (up j)/\K w1 wr) (fun _ _ _ _ i _=>es.length-(intOf i).toNat)
  case atStart=>exact⟨0,af,rfl,Qc,t⟩
  case round =>
   obtain⟨j,hj,rfl,N,kr⟩:=hrel;by_cases M:j<es.length
   ·have ba:(j:Int)<(es.length:Int):=af;obtain⟨b1,off,cs,rfl,aO,hcl,⟨S,rfl,jB⟩,hcell⟩:=DF hes j M au;have d0:wr.cell? ⟨b1,off+j,none⟩=some S:=by exact OZ
    have zh:=mR _ _ _ _ jB kr;have hs:=HU.aa j M;have XX:=hall _ (bW M);have jo:=akj _ (bW M);have hl9:=HUL.aa j Kq;have hle:=Uj XX jo;generalize es[j]=ej at *;have hc1:jm ej=0:=by simp[jm,XX]
    have gq:Bz ej=jb ej:=by simp[Bz,XX]
    have HS:=ae hs;clear hs hcell;go_wp2_with fail
    refine (aqW zh jo).mono ?_;rintro e w7⟨v7,rfl,A,J⟩;rw[gq]at A;have h7:=eN A;have h57:=iQ _ _ _ _ (eN N) J;have I:=kr.tr J;clear A N zh jB;go_wp2_with fail
    refine (Kc h57 h7 af af).mono ?_;rintro e w8⟨v8,rfl,Q3,k8⟩;rw[<- HS.aa]at Q3;have axH:=rS (base:=w.heap.size) (bq y.size I.size) Q3 rfl;replace I:=I.tr k8;clear h57 h7 Q3;go_wp2;go_roundw
    case rel=>exact⟨j+1,af,bO,axH,I⟩
    case measure=>simp[intOf];omega
   ·have ba:¬(j:Int)<(es.length:Int):=af;obtain rfl:j=es.length:=af;have hfin:Own wr w.heap.size 5 u5 R:=by rw[HR.aa,H1.aa Kq,<- dG,<- HUE.aa];exact N
    clear N;go_wp2;go_ret2;exact⟨_,fL,hfin,y.tr kr⟩
 ·have Y:=zG rfl;have B4:=Mk.aa;have hc1:mc f=0:=by simp[mc,Y]
  have gq:Bu f=jx f:=by simp[Bu,Y]
  have yd:=acx Y Q;have HIF:=ae Q;clear Q;go_wp2_with fail
  refine (apM (dB _ _ _ _ jV t) HIF.aa).mono ?_;rintro e w6⟨v6,rfl,B,H⟩;rw[gq]at B;have h6:=eN B;have h56:=iQ _ _ _ _ G H;replace t:=t.tr H;clear B G;go_wp2_with fail
  refine (Kc h56 h6 af af).mono ?_;rintro e w7⟨v7,rfl,A,J⟩;rw[<- H2.aa Kq]at A;rw[<- HR.aa]at A;have axI:=rS (base:=w.heap.size) (bq y.size t.size) A rfl;replace t:=t.tr J;clear h56 h6 A;go_wp2;go_ret2;exact⟨_,fL,axI,y.tr t⟩
 ·have hfin:Own w5 w.heap.size 5 v5 R:=by rw[HR.aa,H3.aa au au];exact hrow
  clear hrow G;go_wp2;go_ret2;exact⟨_,fL,hfin,sA⟩
theorem ao7(A:Option Addr)(n c:Nat)(b:List UInt8)(w:World)(B:Nat)(hR:Reads w B 1 A n (dy b))(hB:B<=w.heap.size)(hn:n<=1000000000) :
 Calls prog 227 #[.slice A n c] w λe w' =>
  ∃v',e=.returned (.tuple #[v',.int .i64 (xM b)])/\po w' w.heap.size v' (xL b)/\Below w.heap.size w w':=by
 have bN:b.length=n:=E4
 have hle:b.length<=1000000000:=af
 clear bN
 go_enter func227,ntmps227
 go_wp2_with fail
 refine (Om A n c b w B hR hB hn).mono ?_
 rintro e C⟨g,rfl,hg,S,X⟩
 go_wp2_with fail
 refine (sQ g b false C S).mono ?_
 rintro e w2⟨rfl,bE,cQ⟩
 have N:=S.lt
 have hz2:=cQ.size
 have dI:Below w.heap.size w w2:=X.trans (lC cQ hg X.size)
 have T:=qO b false
 have XQ:=nW b false
 have F:Hid (r7 b=if decide ((aC b false).1<=16)&&!(fA (aC b false).1 (aC b false).2.1 (aC b false).2.2).2.2&&(fA (aC b false).1 (aC b false).2.1 (aC b false).2.2).2.1.isEmpty&&fK (fA (aC b false).1 (aC b false).2.1 (aC b false).2.2).1 then some (fA (aC b false).1 (aC b false).2.1 (aC b false).2.2).1 else none):=ae rfl
 generalize aC b false=a at *
 obtain⟨m,l,bad⟩:=a
 simp only at bE T XQ F⊢
 clear S X hR
 by_cases Z:m<=16
 rotate_left
 ·have ug:(16:Int)<(m:Int):=af;have HE:Hid (xM b=40):=ae (by have:=F.aa;simp[Z]at this;simp[xM,this]);have HL:Hid (xL b=[]):=ae (by have:=F.aa;simp[Z]at this;simp[xL,this]);exact aev
 have ug:¬(16:Int)<(m:Int):=af
 go_wp2_with fail
 go_loopw [6,7,15] (fun v _ i j=>∃k:Nat,k<=m/\i=.int .u64 (k:Int)/\po j C.heap.size v (fA k l bad).1/\Rd j g (fA k l bad).2.1 (fA k l bad).2.2/\Below w.heap.size w j/\C.heap.size<=j.heap.size) (fun _ _ i _=>m-(intOf i).toNat)
 case atStart=>exact⟨0,af,rfl,iF _ _ _ _,bE,dI,hz2⟩
 case round =>
  obtain⟨k,hk,rfl,y,E,hb,hz⟩:=hrel;by_cases T:k<m
  ·have eF:(k:Int)<(m:Int):=af;have D:=Ui k l bad;have hfit:∀s,fA k l bad=s->fA (k+1) l bad=(s.1++[(sk s.2.1 s.2.2).1],(sk s.2.1 s.2.2).2):=λs e=>by subst e;rfl
   generalize hs:fA k l bad=s at *;have hfit:=hfit s rfl;obtain⟨u,t,j⟩:=s;simp only at y E D;obtain⟨ayt,XR⟩:=D;have ayu:u.length<=16:=af;clear XR;have V:=ae (NU g t j 16 wr E af af af);have jD:=Dq 16 t j;have L:Hid (fA (k+1) l bad=(u++[((⟨(aP 16 t j).1.toArray⟩,(eQ (aP 16 t j).2.1 (aP 16 t j).2.2).1.1,(eQ (aP 16 t j).2.1 (aP 16 t j).2.2).1.2.1,⟨(eQ (aP 16 t j).2.1 (aP 16 t j).2.2).1.2.2.toArray⟩):bh)],(eQ (aP 16 t j).2.1 (aP 16 t j).2.2).2)):=ae hfit;clear hfit hs;have fg:=OP (aP 16 t j).2.1 (aP 16 t j).2.2;have I:Hid (∀W,Rd W g (aP 16 t j).2.1 (aP 16 t j).2.2->Calls prog 251 #[.pointer (some ⟨g,0,none⟩)] W λe w'=>e=.returned (vd (eQ (aP 16 t j).2.1 (aP 16 t j).2.2).1)/\nD g (eQ (aP 16 t j).2.1 (aP 16 t j).2.2).2.1 (eQ (aP 16 t j).2.1 (aP 16 t j).2.2).2.2 W w'):=ae λW hW=>aa5 g _ _ W hW af
   generalize aP 16 t j=sb at *;obtain⟨nm,lb,wb⟩:=sb;simp only at V I L jD fg;generalize eQ lb wb=sv at *;obtain⟨⟨vk,vn,vt⟩,lv,wv⟩:=sv;simp only[vd]at I L fg;go_wp2_with fail
   refine V.aa.mono ?_;rintro e w3⟨v3,rfl,eY,dz,G⟩;have hst:=str (eN eY);have iW:=G.size;have Br:=Ku y G N;have Q:Below w.heap.size w w3:=hb.trans (lC G hg hb.size);clear y E G hb V;go_wp2_with fail
   refine (I.aa _ dz).mono ?_;rintro e U⟨rfl,O,M⟩;have iX:=M.size;have Fp:=Ku Br M N;have R:Below w.heap.size w U:=Q.trans (lC M hg Q.size);clear Br dz M Q I hst eY;go_wp2_with (at_builtin;refine iC rfl _ _ 34 rfl C.heap.size 84 _ 4 48 TE _ _ _ rfl (pg Fp _) (U.heap.size+1) _ 1 1 (jQ (⟨nm.toArray⟩,vk,vn,⟨vt.toArray⟩)) rfl ?c1 ?c2 ?c3 ?c5 ?_)
   case c1=>exact Reads.new U (jQ (⟨nm.toArray⟩,vk,vn,⟨vt.toArray⟩)) 84 4 1 rfl
   case c2=>exact adf _
   case c3=>omega
   case c5=>simp;omega
   intro v5 J IK lN XZ H;have Fs:po J C.heap.size v5 (fA (k+1) l bad).1:=by rw[L.aa];unfold po;simpa [List.flatMap_append]using IK
   have fq:Rd J g (fA (k+1) l bad).2.1 (fA (k+1) l bad).2.2:=by rw[L.aa];exact (O.below (Below.alloc (aN _ _) (aG _) _) O.lt).below H N
   have ayz:Below w.heap.size w J:=(R.alloc R.size _).trans (H.mono af);have ou:C.heap.size<=J.heap.size:=by have:=H.size;simp at this;omega
   clear IK lN XZ H O Fp R;go_wp2;go_roundw
   case rel=>exact⟨k+1,af,bO,Fs,fq,ayz,ou⟩
   case measure=>simp[intOf];omega
  ·have eF:¬(k:Int)<(m:Int):=af;obtain rfl:k=m:=af;clear T hk;have D:=(Ui k l bad).2;generalize fA k l bad=s at *;obtain⟨u,t,j⟩:=s;simp only at y E F D;clear D;have Lr:∀x:Bool,x=(!j&&t.isEmpty&&fK u)->Hid (xM b=(if x then 0 else 40))/\Hid (xL b=if x then u else []):=by
    intro x Y
    have h:=F.aa
    rw[show (decide (k<=16))=true by simp;omega]at h
    cases x with
    | true=>rw[Bool.true_and,<- Y]at h;exact⟨ae (by simp[xM,h]),ae (by simp[xL,h])⟩
    | false=>rw[Bool.true_and,<- Y]at h;exact⟨ae (by simp[xM,h]),ae (by simp[xL,h])⟩
   have QZ:=ae Lr;clear Lr;go_wp2_with fail
   refine (Oa g _ _ wr E).mono ?_;rintro e w'⟨rfl,rfl⟩;cases hd:(!j&&t.isEmpty)
   ·exact aez
   ·obtain⟨A',c',rfl,hR',_,_⟩:=y.slice;have hrow:=my (bq hg (Nat.le_of_lt N)) y;go_wp2_with fail
    refine (Ti A' c' u wr wr.heap.size hR' (aG _)).mono ?_;rintro e w6⟨rfl,iy⟩;have XT:=hb.trans (iy.mono hb.size);have Qc:=fZ hrow iy;cases hok:fK u
    ·have hne:(jm u != 0)=true:=O1;exact aeA
    ·have hne:(jm u != 0)=false:=O1;exact aeB
section
variable {l la lb:List bh} {b:List UInt8} {v va vb:Value} {w:World}
theorem asx(h:sl b v w)(hn:b.length<=1000000000):Calls prog 227 #[v] w λe w' =>
 ∃i,e=.returned (.tuple #[i,.int .i64 (xM b)])/\po w' w.heap.size i (xL b)/\Below w.heap.size w w':=by
 obtain⟨A,c,rfl,j⟩:=h
 exact ao7 A _ c b w _ j (aG _) hn
end
structure DS(w0:World)(t:TypeId)(z:Array Value)(r g h:Nat)(l:List UInt8)(wr:Bool)(cs:Array Value)(W:World):Prop where
 rd:Rd W g l wr
 x:ai W h t cs
 rv:ai W r t z
 k:K w0 W
 o:w0.heap.size<=r/\r<g/\g<h
section
variable {w0 W W':World} {t:TypeId} {z cs:Array Value} {r g h:Nat} {l l':List UInt8} {wr wr':Bool} {row:Option Nat}
theorem DS.went(D:DS w0 t z r g h l wr cs W)(H:nD g l' wr' W W'):DS w0 t z r g h l' wr' cs W':=by have o:=D.o;exact⟨H.1,D.x.went H af,D.rv.went H af,D.k.trans (lC H.2 af D.k.size),o⟩
theorem DS.set(D:DS w0 t z r g h l wr cs W)(i:Nat)(u:Value):DS w0 t z r g h l wr (cs.setIfInBounds i u) (W.setCell ⟨h,i,none⟩ u):=by have o:=D.o;exact⟨D.rd.set af i u,D.x.aR i u,D.rv.far aU u,D.k.setCell aU u,o⟩
theorem DS.gr(D:DS w0 t z r g h l wr cs W)(k:K W W'):DS w0 t z r g h l wr cs W' :=
 ⟨D.rd.below k D.rd.lt,D.x.below k D.x.lt,D.rv.below k D.rv.lt,D.k.tr k,D.o⟩
theorem DS.mut(D:DS w0 t z r g h l wr cs W)(m:W.grownBy W' row)(s:∀b,row=some b->h<b):DS w0 t z r g h l wr cs W':=by have o:=D.o;have hb:Below (h+1) W W':=⟨m.os,m.tape,m.output,m.size,λi j=>m.block i (bB j D.x.lt) (by rintro rfl;have:=s _ rfl;omega)⟩;exact⟨D.rd.below hb af,D.x.below hb af,D.rv.below hb af,D.k.trans (hb.mono af),o⟩
theorem aH.went{lo:Nat}(H:nD g l' wr' W W')(hg:g<lo):aH lo none W W':=(aH.fM H.2 lo).more (aG _) (λk hk _=>aU)
theorem aH.set{lo b:Nat}(hb:b<lo)(i:Nat)(u:Value):aH lo none W (W.setCell ⟨b,i,none⟩ u) :=
 ⟨rfl,rfl,rfl,Vh,λk hk _ _=>Below.heap_setCell W ⟨b,i,none⟩ u k aU⟩
end
theorem K.set{w0 W:World}{r:Nat}(h:K w0 W)(j:w0.heap.size<=r)(i:Nat)(u:Value):K w0 (W.setCell ⟨r,i,none⟩ u):=h.setCell j u
theorem K.sets{w0:World}{r:Nat}(i:w0.heap.size<=r):∀(us:List Value) (q:Nat) (W:World),K w0 W->K w0 (fN W r q us)
 | [],_,_,h=>h
 | u :: us,q,W,h=>K.sets i us _ _ (h.set i q u)
theorem aH.sets{lo b:Nat}(hb:b<lo):∀(us:List Value) (q:Nat) (W:World),aH lo none W (fN W b q us)
 | [],_,_=>aH.rf _ _ _
 | u :: us,q,W=>(aH.set hb q u).tr (aH.sets hb us _ _)
section
variable {w0 W:World} {t:TypeId} {z:Array Value} {r g h:Nat} {l:List UInt8} {wr:Bool}
theorem DS.put{cs:Array Value}(D:DS w0 t z w0.heap.size g h l wr cs W)(us:List Value)(i:us.length=z.size):ai (fN W w0.heap.size 0 us) w0.heap.size t us.toArray/\K w0 (fN W w0.heap.size 0 us)/\aH (h+1) none W (fN W w0.heap.size 0 us) :=
 ⟨Ve D.rv i,K.sets (aG _) _ _ _ D.k,aH.sets Vn _ _ _⟩
end
theorem po.rel{w:World}{B:Nat}{v:Value}{l:List bh}(h:po w B v l):∀w',aH B none w w'->dJ.rel l [v] w':=by intro w' u;refine⟨v,rfl,aeo (base:=B) ⟨h.1,h.2.imp id ?_⟩⟩;exact Vf
theorem fC.rel{w:World}{B:Nat}{v:Value}{l:List bc}(h:fC w B v l):∀w',aH B none w w'->eJ l v w':=by intro w' u;refine sU (base:=B) ⟨h.1,h.2.imp id ?_⟩;exact Vf
abbrev zEL:List Value:=[.int .i64 0,.int .i64 0,.int .u64 0,.int .u64 0,.int .i64 0,.int .u64 0,.slice none 0 0,.slice none 0 0]
abbrev ez:Array Value:=#[.int .i64 0,.int .i64 0,.int .u64 0,.int .u64 0,.int .i64 0,.int .u64 0,.slice none 0 0,.slice none 0 0]
theorem aw1:(prog.info? 34).map (λi=>(i.zero,i.size,i.bytes))=some (some (.slice none 0 0),1,24):=by kernel_rfl
theorem Ml:gJ prog 69 34 (.slice none 0 0) 1 24:=⟨underlying69,aw1,rfl,au⟩
theorem TW(g:Nat)(l:List UInt8)(wr:Bool)(i:Int)(w:World)(h:Rd w g l wr)(s:l.length<=1000000000)(y:-9223372036854775808<=i)(t:i<=9223372036854775807) :
 Calls prog 177 #[.pointer (some ⟨g,0,none⟩),.int .i64 i] w λe w'=>∃v,e=.returned v/\sl (aP i l wr).1 v w'/\nD g (aP i l wr).2.1 (aP i l wr).2.2 w w' :=
 (NU g l wr i w h s y t).mono λ_ _ ⟨v,e,j,u⟩=>⟨v,e,eN j,u⟩
theorem asy{n:Int}{l:List UInt8}{wr:Bool}(h:r7 (aP n l wr).1=none):(mf n l wr).2.2=true:=by simp only[mf,h]
theorem asA{n:Int}{l:List UInt8}{wr:Bool}{e:List bh}(h:r7 (aP n l wr).1=some e):mf n l wr=(e,(aP n l wr).2):=by simp only[mf,h]
theorem asB{n:Int}{l:List UInt8}{wr:Bool}(h:pT (aP n l wr).1=none):(pq n l wr).2.2=true:=by simp only[pq,h]
theorem asC{n:Int}{l:List UInt8}{wr:Bool}{e:List bc}(h:pT (aP n l wr).1=some e):pq n l wr=(e,(aP n l wr).2):=by simp only[pq,h]
theorem asD{b:List UInt8}(h:r7 b=none):xM b=40/\xL b=[]:=by simp[xM,xL,h]
theorem asE{b:List UInt8}{l:List bh}(h:r7 b=some l):xM b=0/\xL b=l:=by simp[xM,xL,h]
theorem aqZ{b:List UInt8}(h:pT b=none):tU b=50/\tT b=[]:=by simp[tU,tT,h]
theorem aq0{b:List UInt8}{l:List bc}(h:pT b=some l):tU b=0/\tT b=l:=by simp[tU,tT,h]
theorem apN(b:List UInt8)(k br i s cl j:Nat)(l:List UInt8)(wr:Bool)(h:fV b false=((k,br,i,s,cl,j),l,wr)) :
 (min k 4=1->∀m u t,aC l wr=(m,u,t)->kN b=if !(cY (mf b.length) (min m 9) u t).2.2&&(cY (mf b.length) (min m 9) u t).2.1.isEmpty&&bP { mW (k,br,i,s,cl,j)with es:=(cY (mf b.length) (min m 9) u t).1 }then some { mW (k,br,i,s,cl,j)with es:=(cY (mf b.length) (min m 9) u t).1 }else none) /\
 (min k 4=2->kN b=if !(pq b.length l wr).2.2&&(pq b.length l wr).2.1.isEmpty&&bP { mW (k,br,i,s,cl,j)with f:=(pq b.length l wr).1 }then some { mW (k,br,i,s,cl,j)with f:=(pq b.length l wr).1 }else none) /\
 (min k 4≠1->min k 4≠2->kN b=if !wr&&l.isEmpty&&bP (mW (k,br,i,s,cl,j))then some (mW (k,br,i,s,cl,j))else none):=by
 refine⟨λy m u t hn=>?_,λA=>?_,λy A=>?_⟩
 ·unfold kN pr;rw[h];simp only[y,hn,if_true]
 ·unfold kN pr;rw[h];simp only[A,if_true,show ¬((2:Nat)=1) by decide,if_false]
 ·unfold kN pr;rw[h];simp only[y,A,if_false]
theorem TH{b:List UInt8}(h:kN b=none):xA b=110/\pP b=eW:=by simp[xA,pP,h]
theorem aq1{b:List UInt8}{x:aq}(h:kN b=some x):xA b=0/\pP b=x:=by simp[xA,pP,h]
theorem aoC(b:List UInt8)(v:Value)(w:World)(h:sl b v w)(hn:b.length<=1000000000) :
 Calls prog 176 #[v] w λe w' =>
  ∃v',e=.returned (.tuple #[v',.int .i64 (xA b)])/\(∀W,aH w.heap.size none w' W->cR (pP b) v' W)/\K w w':=by
 obtain⟨A,c,rfl,hR⟩:=h
 have dm:=ai.new w 102 ez
 have k0:K w (w.alloc (.cells ez 102)):=(K.rf w).al _
 have sB:=(hR.below k0 (aG _)).more k0.size
 obtain⟨k,l1,e1,qu⟩:∃k l1 e1,aC b false=(k,l1,e1):=⟨_,_,_,rfl⟩
 obtain⟨br,l2,e2,tl⟩:∃k l2 e2,aC l1 e1=(k,l2,e2):=⟨_,_,_,rfl⟩
 obtain⟨y,l3,e3,Mm⟩:∃k l3 e3,aC l2 e2=(k,l3,e3):=⟨_,_,_,rfl⟩
 obtain⟨C,l4,e4,Q4⟩:∃k l4 e4,aC l3 e3=(k,l4,e4):=⟨_,_,_,rfl⟩
 obtain⟨cl,l5,e5,Q5⟩:∃k l5 e5,aC l4 e4=(k,l5,e5):=⟨_,_,_,rfl⟩
 obtain⟨F,E,G,Mn⟩:∃k E G,aC l5 e5=(k,E,G):=⟨_,_,_,rfl⟩
 have HP:=apN b k br y C cl F E G (by simp only[fV,qu,tl,Mm,Q4,Q5,Mn])
 have hl6:E.length<=b.length:=by have g1:=nW b false;have g2:=nW l1 e1;have g3:=nW l2 e2;have g4:=nW l3 e3;have g5:=nW l4 e4;have g6:=nW l5 e5;rw[qu]at g1;rw[tl]at g2;rw[Mm]at g3;rw[Q4]at g4;rw[Q5]at g5;rw[Mn]at g6;simp only at g1 g2 g3 g4 g5 g6;omega
 have C1:=λg W h=>N6 g b false 4 W h af
 have C2:=λg W h=>ao5 g l1 e1 W h
 have C3:=λg W h=>N6 g l4 e4 32 W h af
 have C4:=λg W h=>sQ g l5 e5 W h
 simp only[Lx,qu,tl,Mm,Q4,Q5,Mn]at C1 C2 C3 C4
 clear qu tl Mm Q4 Q5 Mn
 replace HP:=ae HP
 replace C1:=ae C1
 replace C2:=ae C2
 replace C3:=ae C3
 replace C4:=ae C4
 have YT:min k 4<=4:=af
 generalize hkk:min k 4=kk at *
 generalize lM:min br 16=H at *
 generalize YU:min cl 32=cc at *
 have HX:Hid (mW (k,br,y,C,cl,F)=⟨kk,H,y,C,cc,F,[],[]⟩):=ae (by simp only[mW,hkk,lM,YU])
 clear hkk lM YU
 generalize mW (k,br,y,C,cl,F)=X0 at *
 go_enter func176,ntmps176
 go_wp2_with fail
 generalize w.alloc _=w1 at *
 refine (Om A _ c b w1 _ sB (aG _) hn).mono ?_
 rintro e w2⟨g,rfl,hg,pC,k2⟩
 have bE:=dm.below k2 dm.lt
 have hrg:w.heap.size<g:=bB dm.lt hg
 replace k0:=k0.tr k2
 clear hR sB hg k2 dm
 go_wp2_with fail
 refine (C1.aa g w2 pC).mono ?_
 rintro e w3⟨rfl,hw3⟩
 have dz:=bE.went hw3 af
 have k3:K w w3:=k0.trans (lC hw3.2 af k0.size)
 have BW:=hw3.1
 have akk:=BW.lt
 clear pC bE hw3 k0
 go_wp2_with fail
 have D:DS w 102 ez w.heap.size g w3.heap.size l1 e1 #[.int .i64 (kk:Int),.int .i64 0,.int .u64 0,.int .u64 0,.int .i64 0,.int .u64 0,.slice none 0 0,.slice none 0 0]
  (w3.alloc (.cells #[.int .i64 (kk:Int),.int .i64 0,.int .u64 0,.int .u64 0,.int .i64 0,.int .u64 0,.slice none 0 0,.slice none 0 0] 102)) :=
  ⟨BW.al _,ai.new _ _ _,dz.alloc _,k3.al _,aG _,hrg,akk⟩
 clear BW dz k3 akk hrg
 generalize w3.alloc _=w4 at *
 generalize w3.heap.size=h at *
 refine (C2.aa g w4 D.rd).mono ?_
 rintro e w5⟨rfl,hw5⟩
 replace D:=D.went hw5
 clear hw5
 have q:=D.x.cell
 have z:=D.x.frozen
 go_upto_region 4 with (fail)
 replace D:DS w 102 ez w.heap.size g h l4 e4 #[.int .i64 (kk:Int),.int .i64 (H:Int),.int .u64 (y:Int),.int .u64 (C:Int),.int .i64 0,.int .u64 0,.slice none 0 0,.slice none 0 0] (((w5.setCell ⟨h,1,none⟩ (.int .i64 (H:Int))).setCell ⟨h,2,none⟩ (.int .u64 (y:Int))).setCell ⟨h,3,none⟩ (.int .u64 (C:Int))):=((((((D).set 1 (.int .i64 (H:Int)))).set 2 (.int .u64 (y:Int)))).set 3 (.int .u64 (C:Int)))
 clear q z
 generalize (((w5.setCell _ _).setCell _ _).setCell _ _)=w6 at *
 go_wp2_with fail
 refine (C3.aa g w6 D.rd).mono ?_
 rintro e w7⟨rfl,hw7⟩
 replace D:=D.went hw7
 clear hw7
 have q:=D.x.cell
 have z:=D.x.frozen
 go_upto_region 5 with (fail)
 replace D:DS w 102 ez w.heap.size g h l5 e5 #[.int .i64 (kk:Int),.int .i64 (H:Int),.int .u64 (y:Int),.int .u64 (C:Int),.int .i64 (cc:Int),.int .u64 0,.slice none 0 0,.slice none 0 0] (w7.setCell ⟨h,4,none⟩ (.int .i64 (cc:Int))):=((D).set 4 (.int .i64 (cc:Int)))
 clear q z
 generalize w7.setCell _ _=w8 at *
 go_wp2_with fail
 refine (C4.aa g w8 D.rd).mono ?_
 rintro e w9⟨rfl,hw9⟩
 replace D:=D.went hw9
 clear hw9
 have q:=D.x.cell
 have z:=D.x.frozen
 go_upto_region 6 with (fail)
 replace D:DS w 102 ez w.heap.size g h E G #[.int .i64 (kk:Int),.int .i64 (H:Int),.int .u64 (y:Int),.int .u64 (C:Int),.int .i64 (cc:Int),.int .u64 (F:Int),.slice none 0 0,.slice none 0 0] (w9.setCell ⟨h,5,none⟩ (.int .u64 (F:Int))):=((D).set 5 (.int .u64 (F:Int)))
 clear q z C1 C2 C3 C4
 generalize w9.setCell _ _=wa at *
 have hgh:=D.o
 have HM:=ae (λ(l:List UInt8) wr=>Oz (b.length:Int) l wr)
 have akl:((b.length:Nat):Int)<=9223372036854775807:=af
 have q:=D.x.cell
 go_upto_block 0 with (fail)
 go_cut [6,7,8,9]from 26 to 64 (fun _ _ _ _ W=>∃(X:aq) (l:List UInt8) (e:Bool) (vf ve:Value),DS w 102 ez w.heap.size g h l e (aA X vf ve) W /\
  (∀s,aH (h+1) none W s->eJ X.f vf s)/\(∀s,aH (h+1) none W s->ar dJ X.es ve s)/\Hid (kN b=if !e&&l.isEmpty&&bP X then some X else none))
 case first =>
  by_cases eK:kk=1
  ·subst eK;replace D:DS w 102 ez w.heap.size g h E G #[.int .i64 (1:Int),.int .i64 (H:Int),.int .u64 (y:Int),.int .u64 (C:Int),.int .i64 (cc:Int),.int .u64 (F:Int),.slice none 0 0,.slice none 0 0] wa:=D;obtain⟨m,Z,e7,Q6⟩:∃k la ea,aC E G=(k,la,ea):=⟨_,_,_,rfl⟩;rw[show ((1:Nat):Int)=1 from rfl]at HX;have V:=ae (HP.aa.1 rfl m Z e7 Q6);rw[HX.aa]at V;have YV:Z.length<=b.length:=by have:=nW E G;rw[Q6]at this;simp only at this;omega
   have C7:=λg W h=>N6 g E G 9 W h af
   simp only[Q6]at C7;clear Q6 HP HX;have hm9:min m 9<=9:=af;generalize min m 9=M at *;go_wp2_with fail
   clear q;refine (C7 g wa D.rd).mono ?_;rintro e wb⟨rfl,Mo⟩;replace D:=D.went Mo;clear Mo C7;have HQ:=ae (λk l wr=>Kw (JZ (b.length:Int)) k l wr);have akm:=ae (λk (hk:k<=M) (hb:(cY (mf (b.length:Int)) k Z e7).2.2=true)=>show xA b=110/\pP b=eW from TH (by
    have:=UW (JZ (b.length:Int)) hb (M-k);rw[show k+(M-k)=M by omega]at this;rw[V.aa,this];rfl))
   go_wp2_with fail
   go_loopw [6,7,30] (fun _ _ i W=>∃j:Nat,j<=M/\i=.int .i64 (j:Int)/\∃es ve L J,Hid (cY (mf (b.length:Int)) j Z e7=(es,L,J)) /\
    DS w 102 ez w.heap.size g h L J #[.int .i64 (1:Int),.int .i64 (H:Int),.int .u64 (y:Int),.int .u64 (C:Int),.int .i64 (cc:Int),.int .u64 (F:Int),.slice none 0 0,ve] W /\
    aX (h+1) (h+1) 34 dJ es ve W) (λ_ _ i _=>M-(intOf i).toNat)
   case atStart=>exact⟨0,af,rfl,[],_,Z,e7,ae rfl,D,aX.nil _ _ _ _ _⟩
   case round =>
    clear D;obtain⟨j,hj,rfl,es,ve,L,J,HJ,D,S⟩:=hrel;have YW:=HQ.aa j Z e7;rw[HJ.aa]at YW;simp only at YW;obtain⟨aC9,ayA⟩:=YW;have aDa:es.length<=9:=af;clear ayA;by_cases hlt:j<M
    ·have ba:(j:Int)<(M:Int):=af;go_wp2_with fail
     refine (TW g L J (b.length:Int) wr D.rd af af akl).mono ?_;rintro e wc⟨vb,rfl,rr,hwc⟩;replace D:=D.went hwc;replace S:=S.up (aG _) (aH.went hwc Vn);have hlb:=HM.aa L J;have ayB:=Dq (b.length:Int) L J;have uB:=ae (@asy (b.length:Int) L J);have uC:=ae (λe h=>@asA (b.length:Int) L J e h);have zJ:Hid (cY (mf (b.length:Int)) (j+1) Z e7=(es++[(mf (b.length:Int) L J).1],(mf (b.length:Int) L J).2)):=ae (by
      have:=HJ.aa;rw[cY,this])
     clear hwc;generalize aP (b.length:Int) L J=B at *;obtain⟨bs,lk,ek⟩:=B;simp only at rr D S hlb ayB uB uC;go_wp2_with fail
     refine (asx rr af).mono ?_;rintro e R⟨v9,rfl,O,k9⟩;have Em:=D.x.lt;have ll:=S.blk;replace D:=D.gr k9;replace S:=S.st k9;clear rr;cases rF:r7 bs with
     | none => have I:=asD rF;have HN:=ae (akm.aa (j+1) af (by rw[zJ.aa];exact uB.aa rF));rw[I.1];clear rF I O;exact O2
     | some ev =>
      have I:=asE rF;rw[I.1];rw[I.2]at O;have Mp:Hid (cY (mf (b.length:Int)) (j+1) Z e7=(es++[ev],lk,ek)):=ae (by rw[zJ.aa,uC.aa _ rF]);clear rF I zJ uB uC HJ;have Q7:=ae O.rel;obtain⟨Q,N,rfl⟩:=vN (aeo O);clear O;obtain⟨css,hown,hcl,ln⟩:=S;have q:=D.x.cell;have kA:K R (R.alloc (.cells #[.slice Q ev.length N] 34)):=(K.rf R).al _;have hbase:h+1<=(R.alloc (.cells #[.slice Q ev.length N] 34)).heap.size:=by have:=kA.size;have:=D.x.lt;omega
      go_wp2_with (at_builtin;refine iC rfl _ _ 69 rfl (h+1) 34 _ 1 24 Ml _ _ _ rfl (pg hown _) (R.heap.size+1) _ 1 1 [.slice Q ev.length N] rfl ?c1 ?c2 ?c3 hbase ?_)
      case c1=>exact Reads.new R [.slice Q ev.length N] 34 1 1 rfl
      case c2=>intro u hu;simp at hu;subst hu;rfl
      case c3=>omega
      intro v9 w9 eU bJ dc _;have DA:=D.gr kA;replace DA:=DA.mut bJ (λb0 hb0=>(ll b0 hb0).1);have bG:aX (h+1) (h+1) 34 dJ (es++[ev]) v9 w9:=aX.snoc hcl (λw' u=>ln w' (aH.tr (aH.bg kA _ _) u)) eU bJ pO
       (λw' u=>Q7.aa w' ((aH.tr (aH.bg kA _ _) u).more af (λk hk _ e=>Vo)))
      clear eU bJ dc hown ln D q;obtain⟨Jb,Ga,rfl,-⟩:=bG.slice;have q:=DA.x.cell;have z:=DA.x.frozen;go_upto_region 14 with (fail);have hsz:(es++[ev]).length=es.length+1:=aj;rw[hsz]at bG;clear hsz q z;replace DA:DS w 102 ez w.heap.size g h lk ek #[.int .i64 (1:Int),.int .i64 (H:Int),.int .u64 (y:Int),.int .u64 (C:Int),.int .i64 (cc:Int),.int .u64 (F:Int),.slice none 0 0,.slice Jb (es.length+1) Ga] (w9.setCell ⟨h,7,none⟩ (.slice Jb (es.length+1) Ga)):=DA.set 7 (.slice Jb (es.length+1) Ga);replace bG:=bG.up (w':=w9.setCell ⟨h,7,none⟩ (.slice Jb (es.length+1) Ga)) (aG _) (aH.set af 7 _);generalize w9.setCell _ _=wt at *;go_wp2;go_roundw
      case rel=>exact⟨j+1,af,bO,es++[ev],_,lk,ek,Mp,DA,bG⟩
      case measure=>simp[intOf];omega
    ·have ba:¬(j:Int)<(M:Int):=af;obtain rfl:j=M:=af;have t:=V.aa;rw[HJ.aa]at t;simp only at t;replace t:=ae t;obtain⟨Jb,Ga,rfl,-⟩:=S.slice;have Y:∀s,aH (h+1) none wr s->eJ [] (.slice none 0 0) s:=λ_ _=>⟨none,0,rfl,Reads.nil _ _ _ _⟩
     have T:∀s,aH (h+1) none wr s->ar dJ es (.slice Jb es.length Ga) s:=λs u=>(S.up (aG _) u).ar
     clear akm V HJ HQ S;go_wp2;go_meet
     case rel=>exact⟨⟨1,H,y,C,cc,F,[],es⟩,L,J,_,_,D,Y,T,t⟩
  by_cases hk2:kk=2
  ·subst hk2;replace D:DS w 102 ez w.heap.size g h E G #[.int .i64 (2:Int),.int .i64 (H:Int),.int .u64 (y:Int),.int .u64 (C:Int),.int .i64 (cc:Int),.int .u64 (F:Int),.slice none 0 0,.slice none 0 0] wa:=D;rw[show ((2:Nat):Int)=2 from rfl]at HX;have V:=ae (HP.aa.2.1 rfl);rw[HX.aa]at V;clear HP HX;go_wp2_with fail
   clear q;refine (TW g E G (b.length:Int) wa D.rd af af akl).mono ?_;rintro e wc⟨vb,rfl,rr,hwc⟩;replace D:=D.went hwc;have hlb:=HM.aa E G;have uB:=ae (@asB (b.length:Int) E G);have uC:=ae (λe h=>@asC (b.length:Int) E G e h);clear hwc;generalize aP (b.length:Int) E G=B at *;obtain⟨bs,lk,ek⟩:=B;simp only at rr D hlb uB uC;have Em:=D.x.lt;go_wp2_with fail
   refine (aqS rr af).mono ?_;rintro e R⟨v9,rfl,O,k9⟩;replace D:=D.gr k9;clear rr;cases rF:pT bs with
   | none => have I:=aqZ rF;have HN:=ae (show xA b=110/\pP b=eW from TH (by rw[V.aa,uB.aa rF];rfl));rw[I.1];clear rF I O;exact O2
   | some fl =>
    have I:=aq0 rF;rw[I.1];rw[I.2]at O;have t:=V.aa;rw[uC.aa _ rF]at t;simp only at t;replace t:=ae t;clear rF I uB uC V;have HFl:=ae O.rel;obtain⟨Q,N,rfl⟩:=cB (sU O);clear O;have q:=D.x.cell;have z:=D.x.frozen;go_upto_region 20 with (fail);replace D:DS w 102 ez w.heap.size g h lk ek #[.int .i64 (2:Int),.int .i64 (H:Int),.int .u64 (y:Int),.int .u64 (C:Int),.int .i64 (cc:Int),.int .u64 (F:Int),.slice Q fl.length N,.slice none 0 0] (R.setCell ⟨h,6,none⟩ (.slice Q fl.length N)):=((D).set 6 (.slice Q fl.length N));have Y:∀s,aH (h+1) none (R.setCell ⟨h,6,none⟩ (.slice Q fl.length N)) s->eJ fl (.slice Q fl.length N) s:=λs u =>
     HFl.aa s ((aH.tr (aH.set af 6 _) u).more af (λ_ _ _=>aj))
    have T:∀s,aH (h+1) none (R.setCell ⟨h,6,none⟩ (.slice Q fl.length N)) s->ar dJ [] (.slice none 0 0) s:=λ_ _=>iu dJ _
    clear HFl q z;generalize R.setCell _ _=wt at *;go_wp2;go_meet
    case rel=>exact⟨⟨2,H,y,C,cc,F,fl,[]⟩,lk,ek,_,_,D,Y,T,t⟩
  have t:=ae (HP.aa.2.2 eK hk2);rw[HX.aa]at t;clear HP;have Y:∀s,aH (h+1) none wa s->eJ [] (.slice none 0 0) s:=λ_ _=>⟨none,0,rfl,Reads.nil _ _ _ _⟩
  have T:∀s,aH (h+1) none wa s->ar dJ [] (.slice none 0 0) s:=λ_ _=>iu dJ _
  have g1:((kk:Int)==1)=false:=aU;have g2:((kk:Int)==2)=false:=aU;go_wp2;go_meet
  case rel=>exact⟨⟨kk,H,y,C,cc,F,[],[]⟩,E,G,_,_,D,Y,T,t⟩
 case rest =>
 clear D q
 obtain⟨X,l,e,vf,ve,D,Y,T,t⟩:=hcut
 obtain⟨A6,c6,rfl⟩:=cB (Y _ (aH.rf _ _ _))
 obtain⟨A7,c7,rfl⟩:=az (T _ (aH.rf _ _ _))
 have U:=aH.rf (h+1) none wc
 have Gb:Hid ((∀s,aH (h+1) none wc s->eJ X.f (.slice A6 X.f.length c6) s)/\∀s,aH (h+1) none wc s->ar dJ X.es (.slice A7 X.es.length c7) s):=ae ⟨Y,T⟩
 clear Y T
 go_wp2_with fail
 refine (Oa g _ _ _ D.rd).mono ?_
 rintro e w'⟨rfl,rfl⟩
 have HB:Hid ((!e&&l.isEmpty&&bP X)=false->xA b=110/\pP b=eW):=ae λh=>TH (by rw[t.aa,h];rfl)
 have HG:Hid ((!e&&l.isEmpty&&bP X)=true->xA b=0/\pP b=X):=ae λh=>aq1 (by rw[t.aa,h];rfl)
 clear t
 cases hd:(!e&&l.isEmpty)
 ·have HN:=ae (HB.aa (by rw[hd];rfl));exact O2
 have q:=D.x.cell
 go_wp2_with fail
 refine (JU X _ _ ⟨_,_,rfl,Gb.aa.1 _ U,Gb.aa.2 _ U⟩).mono ?_
 rintro e wz⟨rfl,kz⟩
 replace D:=D.gr kz
 replace U:=U.tr (aH.bg kz _ _)
 cases hok:bP X
 ·have HN:=ae (HB.aa O3);have hne:(oI X != 0)=true:=by rw[EX hok];rfl
  clear q;exact O2
 have HN:=ae (HG.aa O3)
 have hne:(oI X != 0)=false:=by rw[Hz hok];rfl
 clear q
 have q:=D.rv.cell
 have z:=D.rv.frozen
 have q2:=D.x.cell
 go_wp2
 have P9:=D.put [.int .i64 X.kind,.int .i64 X.br,.int .u64 (X.life:Int),.int .u64 (X.cI:Int),.int .i64 X.cl,.int .u64 (X.sub:Int),.slice A6 X.f.length c6,.slice A7 X.es.length c7] rfl
 simp only[fN,Nat.reduceAdd,fP]at P9
 clear q q2 z
 generalize World.setCell _ _ _=W9 at *
 have e9:=P9.1.cell
 have U9:=U.tr P9.2.2
 refine bodyPost_ret (v:=.tuple #[.agg (aA X (.slice A6 X.f.length c6) (.slice A7 X.es.length c7)),.int .i64 0]) ae2 rfl ?_
 exact⟨_,by rw[HN.aa.1],by rw[HN.aa.2];exact λs u'=>⟨_,_,rfl,Gb.aa.1 _ (U9.tr (u'.more (by omega) (λ_ _ _=>by simp))),Gb.aa.2 _ (U9.tr (u'.more (by omega) (λ_ _ _=>by simp)))⟩,P9.2.1⟩
def rW(x:Rec):Int:=if gh x then 0 else 110
def tR(x:Rec):List UInt8:=if gh x then bV x else []
theorem TX{x:Rec}(h:x.kind=2∨x.kind=3):bV x=aD (bf x.kind)++aD x.n++gZ (eO x.e):=by unfold bV;rw[if_pos h];simp
theorem TY{x:Rec}(h:x.kind=4∨x.kind=5):bV x=aD (bf x.kind)++aD x.n++eV (x.br,x.life,x.cI):=by unfold bV eV;rw[if_neg af,if_pos h];simp
theorem Un{x:Rec}(h:x.kind=1):bV x=aD (bf x.kind)++aD x.n:=by unfold bV;rw[if_neg (by omega),if_neg (by omega)];simp
def B6(l:List UInt8)(v:Value)(w:World):Prop:=∃B,Own w B 5 v l
theorem ajz{l:List UInt8}{v:Value}{w:World}(h:B6 l v w):sl l v w:=eN h.choose_spec
theorem aw2(l:List UInt8):∀v w w',B6 l v w->Below w.heap.size w w'->B6 l v w':=by rintro v w w'⟨B,h⟩ k;exact⟨B,fZ h k⟩
theorem avJ(w:World):B6 [] (.slice none 0 0) w:=⟨0,iF _ _ _ _⟩
theorem aup(x:Rec)(v:Value)(w:World)(h:qh x v w)(hfit:nX x) :
 Calls prog 163 #[v] w λe w' =>
  ∃v',e=.returned (.tuple #[v',.int .i64 (rW x)])/\B6 (tR x) v' w'/\K w w':=by
 have u:=ae λW h=>acz x v W h
 have h':=h
 obtain⟨vf,M,rfl,hf,S⟩:=h
 have N:=ai.new w 190 (eH x vf M)
 have F:K w (w.alloc (.cells (eH x vf M) 190)):=(K.rf w).al _
 have I:=ae (ajx h')
 clear h'
 obtain⟨hik,U,X,hib,hil,wN⟩:=hfit
 cases hok:gh x
 ·have HE:Hid (rW x=110):=ae E9;have j:Hid (tR x=[]):=ae KD;rw[hok]at u;clear hok;go_enter func163,ntmps163;go_wp2_with fail
  generalize w.alloc _=w1 at *;refine (u.aa _ (I.aa _ F)).mono ?_;rintro e w2⟨rfl,A⟩;go_wp2;go_ret2;exact⟨_,fL,by rw[j.aa];exact avJ _,F.tr A⟩
 have HE:Hid (rW x=0):=ae E9
 have j:Hid (tR x=bV x):=ae KD
 have hkk:=AR hok
 rw[hok]at u
 have B:=ae λh=>Un (x:=x) h
 have G:=ae λh=>TX (x:=x) h
 have D:=ae λh=>TY (x:=x) h
 clear hok
 obtain⟨k,n,x,b,l,s⟩:=x
 simp only at N F hf S hik U X hib hil wN hkk HE j u I B G D⊢
 generalize tR ⟨k,n,x,b,l,s⟩=R at *
 generalize bV ⟨k,n,x,b,l,s⟩=E at *
 generalize rW ⟨k,n,x,b,l,s⟩=C at *
 have zE:∀W,K w W->cR x (.agg (aA x vf M)) W:=λW k=>⟨vf,M,rfl,dB _ _ _ _ hf k,aW S k⟩
 have Mq:k=1∨(k=2∨k=3)∨k=4∨k=5:=af
 have yg:k=2∨k=3->bP x=true:=by exact ae3
 clear hkk
 go_enter func163,ntmps163
 go_wp2_with fail
 generalize w.alloc _=w1 at *
 generalize w.heap.size=g at N⊢
 have qx:=N.cells
 refine (u.aa _ (I.aa _ F)).mono ?_
 rintro e w2⟨rfl,A⟩
 clear hf S u I
 go_upto_region 3 with (fail)
 have BZ:=λW (Y:K w2 W)=>qx W (A.tr Y)
 have p0:=cG (bf k) (fI k)
 have p1:=cG n U
 refine sR [ag (.pointer (some ⟨g,0,none⟩)),
  ag (.int .i64 (k)),
  ag (.int .u64 (bf k:Nat)),
  sl (aD (bf k)),
  ag (.pointer (some ⟨g,1,none⟩)),
  ag (.int .u64 (n:Int)),
  B6 (aD (bf k)++aD n),
  B6 (aD (bf k)++aD n)]
  [([],[]),([0],[(10,0)]),([1],[(11,1)]),([2],[(12,2)]),([],[]),([4],[(14,4)]),([3,5],[(13,3),(15,5)]),([6],[(16,6)])] 42 rfl ak ak ak ?Mr ?Ms ?_
 case Mr =>
  simp only[aI]
  and_intros
  all_goals first|exact jN _|exact iQ _|exact aw2 _|exact mz|simp
 case Ms =>
  simp only[mS]
  and_intros
  all_goals try trivial
  all_goals
   intro V W Y y
   try simp only[aI,aE,aF,ag]at y
   try simp[aL,aw,List.lookup,y,aE,aF,aS,execOp,ay,ag,aN,Y,BZ,go_sem]
  ·exact AY k
  ·exact Vm
  ·refine (tM n y.1 U af).mono ?_;rintro e w''⟨v',rfl,ho,hb⟩;exact⟨v',rfl,⟨_,ho⟩,hb⟩
 intro V w3 Q y
 have h7:=y 7 aj
 simp only[aE,aF]at h7
 clear y
 simp only[bF,Act.put,cO,cM,cL]
 generalize V 7=v3 at *
 have YX:=ae h7
 replace h7:=ajz h7
 clear BZ
 have rz:(aD (bf k)++aD n).length<=100:=aU
 have i:=F.tr (A.tr Q)
 replace A:=A.tr Q
 clear Q
 generalize aD (bf k)++aD n=b3 at *
 obtain eK|FI|Ly:=Mq
 ·subst eK;have L:=YX.aa;rw[<- B.aa rfl,<- j.aa]at L;have L:=ae L;clear B G D;go_wp2;go_ret2;exact⟨_,fL,L.aa,i⟩
 ·have O:=yg FI;have T:=ae (j.aa.trans (G.aa FI));have hc1:=Hz O;have gq:nY x=eO x:=by simp[nY,O]
  have hlx:=Ib O X;clear B G D j;go_upto_region 5 with (fail);rcases FI with rfl|rfl;all_goals
   go_wp2_with fail
   refine (NR x _ _ (zE _ i) X).mono ?_
   rintro e w4⟨v4,rfl,t,H⟩
   rw[gq]at t
   have J:=eN t
   have Mt:=iQ _ _ _ _ h7 H
   replace i:=i.tr H
   clear t h7
   go_wp2_with fail
   refine (Kc Mt J af af).mono ?_
   rintro e w5⟨v5,rfl,Z,k5⟩
   rw[<- T.aa]at Z
   have h5:=ae (show B6 R v5 w5 from ⟨_,Z⟩)
   replace i:=i.tr k5
   clear Mt J Z
   go_wp2
   go_ret2
   exact⟨_,fL,h5.aa,i⟩
 ·have T:=ae (j.aa.trans (D.aa Ly));clear B G D j;go_upto_region 5 with (fail);rcases Ly with rfl|rfl;all_goals
   go_wp2_with fail
   refine (Tc _ _ (b,l,s) _ h7 af ⟨hib,hil,wN⟩).mono ?_
   rintro e w4⟨v4,rfl,t,H⟩
   rw[<- T.aa]at t
   have J:=ae (show B6 R v4 w4 from ⟨_,t⟩)
   replace i:=i.tr H
   clear t h7
   go_wp2
   go_ret2
   exact⟨_,fL,J.aa,i⟩
theorem aq2(x:Rec)(v:Value)(w:World)(h:qh x v w)(hfit:nX x) :
 Calls prog 163 #[v] w λe w' =>
  ∃i,e=.returned (.tuple #[i,.int .i64 (rW x)])/\sl (tR x) i w'/\K w w':=by
 refine (aup x v w h hfit).mono ?_
 rintro e w'⟨i,rfl,h,k⟩
 exact⟨i,rfl,ajz h,k⟩
abbrev akn:Array Value:=#[.int .i64 0,.int .u64 0,.int .i64 0,.int .i64 0,.int .u64 0,.int .u64 0,.int .i64 0,.int .u64 0,.slice none 0 0,.slice none 0 0,.int .i64 0,.int .u64 0,.int .u64 0]
theorem abk{b:List UInt8}{x:Rec}(h:Lg b=some x):OY b=0/\Vc b=x:=by simp[OY,Vc,h]
